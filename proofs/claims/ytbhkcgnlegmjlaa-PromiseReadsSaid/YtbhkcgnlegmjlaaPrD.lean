/-
  Promises: Read, the program's.
-/
import Derived.Test.YtbhkcgnlegmjlaaPrC
namespace Go.Proofs.Ytbhkcgnlegmjlaa
set_option linter.unusedVariables false
set_option linter.unusedSimpArgs false
open Go.RowKit
attribute [local irreducible] ust lmpOut parseP RS.num rightP nearF

set_option maxRecDepth 100000 in
set_option maxHeartbeats 32000000 in
theorem readP_any (v : Value) (a : List UInt8) (w : World) (hv : Rd w v a) (hla : a.length ≤ 1099511627776) : Calls Try.prog 9 #[v] w (GivesReadP w a) := by
  obtain ⟨p, c, rfl⟩ := hv.shape
  have HV := Lib.hid hv
  clear hv
  unfold GivesReadP
  by_cases h1 : 512 < a.length
  · have he : readP a = (zeroP, 22) := by unfold readP; rw [if_pos h1]
    rw [he]; clear he
    have h1' : (512 : Int) < (a.length : Int) := by omega
    go_enter Try.func9, Try.ntmps9
    go_upto_region 1 with fail
    rw [pr_zero]
    refine wp_world (fun W => PA w.heap.size zeroP W ∧ Below w.heap.size w W) ⟨PA.new zeroP w, bl_alloc (Below.refl _ _) _⟩ ?_
    rintro W ⟨hA, hB⟩
    have HH := Lib.hid hA
    have HB := Lib.hid hB
    clear hA hB
    go_upto_region 2 with fail
    refine wp_region_lit ?_
    refine wpList_built rfl 31 #[] rfl [] (by simp) zeroP.cells.toArray built_pr0 ?_
    refine wpList_store_row rfl 31 (.tmp 2) (.tmp 11) rfl w.heap.size zeroP.cells.toArray rfl rfl 31 _ HH.out.row (pr_size _) rfl (all_oneCell_toArray zeroP.cells_one) ?_
    go_wp2_with fail
    exact bodyPost_ret (v := .tuple #[prV zeroP, .int .i64 22]) (results_row_tmp (p := 2) (u := 3) rfl _ _ w.heap.size zeroP.cells.toArray rfl (pr_loads ⟨setRow_heap _ _ _ _ _ _ HH.out.row⟩)) rfl ⟨rfl, below_setRow HB.out (Nat.le_refl _)⟩
  have h1' : ¬ ((512 : Int) < (a.length : Int)) := by omega
  by_cases h2 : a.length = 0
  · have he : readP a = (zeroP, 21) := by unfold readP; rw [if_neg h1, if_pos h2]
    rw [he]; clear he
    have h2' : ((a.length : Int) == 0) = true := by rw [h2]; rfl
    go_enter Try.func9, Try.ntmps9
    go_upto_region 1 with fail
    rw [pr_zero]
    refine wp_world (fun W => PA w.heap.size zeroP W ∧ Below w.heap.size w W) ⟨PA.new zeroP w, bl_alloc (Below.refl _ _) _⟩ ?_
    rintro W ⟨hA, hB⟩
    have HH := Lib.hid hA
    have HB := Lib.hid hB
    clear hA hB
    go_upto_region 4 with fail
    refine wp_region_lit ?_
    refine wpList_built rfl 31 #[] rfl [] (by simp) zeroP.cells.toArray built_pr0 ?_
    refine wpList_store_row rfl 31 (.tmp 2) (.tmp 16) rfl w.heap.size zeroP.cells.toArray rfl rfl 31 _ HH.out.row (pr_size _) rfl (all_oneCell_toArray zeroP.cells_one) ?_
    go_wp2_with fail
    exact bodyPost_ret (v := .tuple #[prV zeroP, .int .i64 21]) (results_row_tmp (p := 2) (u := 3) rfl _ _ w.heap.size zeroP.cells.toArray rfl (pr_loads ⟨setRow_heap _ _ _ _ _ _ HH.out.row⟩)) rfl ⟨rfl, below_setRow HB.out (Nat.le_refl _)⟩
  have h2' : ((a.length : Int) == 0) = false := beq_false_of_ne (by omega)
  obtain ⟨x0, b, rfl⟩ : ∃ x0 b, a = x0 :: b := by cases a with | nil => simp at h2 | cons a t => exact ⟨a, t, rfl⟩
  obtain ⟨bk, o, hpe, hcell, hcl⟩ : ∃ bk o, p = some ⟨bk, o, none⟩ ∧ w.cell? ⟨bk, o, none⟩ = some (.int .u8 (x0.toNat : Int)) ∧ (x0 :: b).length ≤ c := by
    rcases HV.out with ⟨h, _⟩ | ⟨bk, o, c', he, hc, hm, hcell⟩
    · simp at h
    · simp at he
      have h0 := hcell 0 (by simp)
      obtain ⟨h3, h4⟩ := he
      exact ⟨bk, o, h3, h0, by rw [h4]; exact hc⟩
  subst hpe
  generalize hN : (x0 :: b).length = N at *
  have hN1 : (1 : Int) ≤ (N : Int) := by omega
  have hN1' : (0 : Int) < (N : Int) := by omega
  by_cases hx : x0 = byt 80
  case neg =>
    have he : readP (x0 :: b) = (zeroP, 20) := by
      unfold readP
      rw [if_neg (by rw [hN]; exact h1), if_neg (by rw [hN]; exact h2), if_neg (show ¬ ((x0 :: b).head? = some (byt 80)) by intro h; simp at h; exact hx h)]
    rw [he]; clear he
    have hb0 : ((x0.toNat : Int) != 80) = true := by
      rw [bne_iff_ne]
      intro h
      apply hx
      rw [← UInt8.toNat_inj]
      have := byt_nat 80 (by omega) (by omega)
      omega
    generalize (x0.toNat : Int) = z at *
    go_enter Try.func9, Try.ntmps9
    go_upto_region 1 with fail
    rw [pr_zero]
    refine wp_world (fun W => PA w.heap.size zeroP W ∧ Below w.heap.size w W) ⟨PA.new zeroP w, bl_alloc (Below.refl _ _) _⟩ ?_
    rintro W ⟨hA, hB⟩
    have HH := Lib.hid hA
    have HB := Lib.hid hB
    have hc0 : W.cell? ⟨bk, o, none⟩ = some (.int .u8 z) := by rw [hB.cell (p := ⟨bk, o, none⟩) (World.block_lt_of_cell? w _ hcell)]; exact hcell
    clear hA hB
    go_upto_region 6 with fail
    refine wp_region_lit ?_
    refine wpList_built rfl 31 #[] rfl [] (by simp) zeroP.cells.toArray built_pr0 ?_
    refine wpList_store_row rfl 31 (.tmp 2) (.tmp 22) rfl w.heap.size zeroP.cells.toArray rfl rfl 31 _ HH.out.row (pr_size _) rfl (all_oneCell_toArray zeroP.cells_one) ?_
    go_wp2_with fail
    exact bodyPost_ret (v := .tuple #[prV zeroP, .int .i64 20]) (results_row_tmp (p := 2) (u := 3) rfl _ _ w.heap.size zeroP.cells.toArray rfl (pr_loads ⟨setRow_heap _ _ _ _ _ _ HH.out.row⟩)) rfl ⟨rfl, below_setRow HB.out (Nat.le_refl _)⟩
  subst hx
  have hz : ((byt 80).toNat : Int) = 80 := byt_nat 80 (by omega) (by omega)
  rw [hz] at hcell
  have hl : b.length ≤ 1099511627776 := by rw [List.length_cons] at hN; omega
  have hrd : readP (byt 80 :: b) = if (ust b 6).x = 0 then (if 0 < (ust b 6).l.length then (zeroP, 20) else if rightP (parseP nearF b) then (parseP nearF b, 0) else (zeroP, 23)) else (zeroP, (ust b 6).x) := by
    unfold readP
    rw [if_neg (by rw [hN]; exact h1), if_neg (by rw [hN]; exact h2), if_pos (show (byt 80 :: b).head? = some (byt 80) from rfl)]
    rfl
  have HRD := Lib.hid hrd
  clear hrd
  have hdr : Rd w (.slice (some ⟨bk, o + 1, none⟩) (N - 1) (c - 1)) b := by
    have h := HV.out
    rw [← hN] at h
    have h3 := h.drop 1 (by simp) ⟨bk, o + 1, none⟩ (fun _ => rfl) ⟨_, _, rfl⟩
    rw [hN] at h3
    exact h3
  have hNb : N - 1 = b.length := by rw [List.length_cons] at hN; omega
  have HDR := Lib.hid hdr
  have hc1 : (1 : Int) ≤ (c : Int) := by omega
  clear hdr HV
  go_enter Try.func9, Try.ntmps9
  go_upto_region 1 with fail
  rw [pr_zero]
  refine wp_world (fun W => PA w.heap.size zeroP W ∧ Below w.heap.size w W) ⟨PA.new zeroP w, bl_alloc (Below.refl _ _) _⟩ ?_
  rintro W ⟨hA, hB⟩
  have HH := Lib.hid hA
  have HB := Lib.hid hB
  have hc0 : W.cell? ⟨bk, o, none⟩ = some (.int .u8 80) := by rw [hB.cell (p := ⟨bk, o, none⟩) (World.block_lt_of_cell? w _ hcell)]; exact hcell
  clear hA hB
  go_upto_region 7 with fail
  go_cut [4] (fun s4 wx => ∃ g, s4 = .pointer (some ⟨g, 0, none⟩) ∧ RpI w wx g ⟨b, 0⟩)
  case first =>
    by_cases hc : c = 1
    · subst hc
      have hb0 : b = [] := List.eq_nil_of_length_eq_zero (by omega)
      have hdr : Rd W (.slice (some ⟨bk, o, none⟩) b.length 0) b := by
        subst hb0
        exact .inr ⟨bk, o, 0, rfl, Nat.le_refl _, by decide, fun i hi => by simp at hi⟩
      have HD2 := Lib.hid hdr
      clear hdr hb0
      go_wp2_with fail
      refine (new_any _ b _ HD2.out hl).mono ?_
      rintro e w1 ⟨g, rfl, hg, hr, hb⟩
      have HI := Lib.hid (show RpI w w1 g ⟨b, 0⟩ from ⟨HH.out.below hb, bl_bl HB.out hb, hr, Nat.lt_of_lt_of_le HH.out.lt hg⟩)
      clear hg hr hb
      go_wp2_with fail
      go_meet
      exact ⟨g, rfl, HI.out⟩
    · have hdr := HDR.out.below HB.out
      rw [hNb] at hdr
      have HD2 := Lib.hid hdr
      clear hdr
      go_wp2_with fail
      refine (new_any _ b _ HD2.out hl).mono ?_
      rintro e w1 ⟨g, rfl, hg, hr, hb⟩
      have HI := Lib.hid (show RpI w w1 g ⟨b, 0⟩ from ⟨HH.out.below hb, bl_bl HB.out hb, hr, Nat.lt_of_lt_of_le HH.out.lt hg⟩)
      clear hg hr hb
      go_wp2_with fail
      go_meet
      exact ⟨g, rfl, HI.out⟩
  case rest =>
  obtain ⟨g, rfl, hi⟩ := hcut
  have HI := Lib.hid hi
  clear hi HH HB HDR hc0 W
  obtain ⟨W, rfl⟩ : ∃ W, W = wc := ⟨_, rfl⟩
  go_upto_region 8 with fail
  go_cut [5] (fun s5 wx => ∃ g5, s5 = .pointer (some ⟨g5, 0, none⟩) ∧ RpI w wx g (ust b 2) ∧ EA g5 (lmpOut 32 b 0) (nearF (ust b 0).num) (ust b 1).num wx ∧ g < g5)
  case first =>
    refine wp_region_noPanic ?_
    refine wp_region_held_drew (S := (fun _ => True)) (by kernel_rfl) ?_ (fun hHeld => ?_)
    · (try dsimp only); (first | done | trivial)
    refine wpAnyH_take (i := 0) (v := ?_) (by simp only [List.getElem?_toArray, List.getElem?_cons_succ, List.getElem?_cons_zero]; first | done | rfl) (by kernel_rfl) (by kernel_rfl) (by kernel_rfl) (fun _ _ _ h => h) (Or.inl ⟨by rfl, ?hy⟩) (by assumption) ?_
    case hy => (intro w hSw; (try dsimp only at hSw); go_simp; all_goals with_reducible rfl)
    try simp only [Act.put, List.setIfInBounds_toArray, List.set_cons_zero, List.set_cons_succ]
    refine wpAnyH_take (i := 3) (v := ?_) (by simp only [List.getElem?_toArray, List.getElem?_cons_succ, List.getElem?_cons_zero]; first | done | rfl) (by kernel_rfl) (by kernel_rfl) (by kernel_rfl) (fun _ _ _ h => h) (Or.inl ⟨by rfl, ?hy⟩) (by assumption) ?_
    case hy => (intro w hSw; (try dsimp only at hSw); go_simp; all_goals with_reducible rfl)
    try simp only [Act.put, List.setIfInBounds_toArray, List.set_cons_zero, List.set_cons_succ]
    refine wpAnyH_take (i := 6) (v := ?_) (by simp only [List.getElem?_toArray, List.getElem?_cons_succ, List.getElem?_cons_zero]; first | done | rfl) (by kernel_rfl) (by kernel_rfl) (by kernel_rfl) (fun _ _ _ h => h) (Or.inl ⟨by rfl, ?hy⟩) (by assumption) ?_
    case hy => (intro w hSw; (try dsimp only at hSw); go_simp; all_goals with_reducible rfl)
    try simp only [Act.put, List.setIfInBounds_toArray, List.set_cons_zero, List.set_cons_succ]
    refine wpAnyH_ready (rs := [1, 9]) (by kernel_rfl) (by simp) ?_
    refine AllReadyH.cons (by simp only [List.getElem?_toArray, List.getElem?_cons_succ, List.getElem?_cons_zero]; first | done | rfl) (fun K hK => ?_) ?_
    · skip
      refine step_call rfl (lump_u g b _ (RpI.rdr (by repeat (first | exact HI.out | apply RpI.drew | apply RpI.drewN | apply RpI.alloc))) hl) (by go_simp; all_goals first | rfl | (simp only [IntKind.wrap_u64]; rfl)) ?_
      rintro e v2 ⟨u2, rfl, ho, hr, hg⟩
      refine ⟨_, rfl, ?_⟩
      obtain ⟨b2, c2, rfl⟩ := ho.rd.shape
      have HI' := Lib.hid (RpI.read (z' := ust b 0) (by repeat (first | exact HI.out | apply RpI.drew | apply RpI.drewN | apply RpI.alloc)) hr hg)
      have HO := Lib.hid (ho.mono (B' := g + 1) (RpI.glt (by repeat (first | exact HI.out | apply RpI.drew | apply RpI.drewN | apply RpI.alloc))))
      clear ho
      clear hr hg
      clear HI
      have HI := HI'
      clear HI'
      refine hK.out _ _ ?_ (fun hHeld => ?_)
      · (try dsimp only); (first | done | trivial)
      clear hK K
      try simp only [Act.put, List.setIfInBounds_toArray, List.set_cons_zero, List.set_cons_succ]
      refine wpAnyH_ready (rs := [2, 4, 9]) (by kernel_rfl) (by simp) ?_
      refine AllReadyH.cons (by simp only [List.getElem?_toArray, List.getElem?_cons_succ, List.getElem?_cons_zero]; first | done | rfl) (fun K hK => ?_) ?_
      · skip
        refine step_conv_bs rfl (.tmp 27) rfl rfl (Own.rd (by repeat (first | exact HO.out | apply own_drew | apply own_drewN' | apply Own.alloc))) ?_
        refine hK.out _ _ ?_ (fun hHeld => ?_)
        · (try dsimp only); (first | done | trivial)
        clear hK K
        try simp only [Act.put, List.setIfInBounds_toArray, List.set_cons_zero, List.set_cons_succ]
        refine wpAnyH_ready (rs := [4, 9]) (by kernel_rfl) (by simp) ?_
        refine AllReadyH.cons (by simp only [List.getElem?_toArray, List.getElem?_cons_succ, List.getElem?_cons_zero]; first | done | rfl) (fun K hK => ?_) ?_
        · skip
          refine step_call rfl (num_u g b 0 _ (RpI.rdr (by repeat (first | exact HI.out | apply RpI.drew | apply RpI.drewN | apply RpI.alloc))) hl) (by go_simp; all_goals first | rfl | (simp only [IntKind.wrap_u64]; rfl)) ?_
          rintro e v2 ⟨rfl, hr, hg⟩
          refine ⟨_, rfl, ?_⟩
          have HI' := Lib.hid (RpI.read (z' := ust b 1) (by repeat (first | exact HI.out | apply RpI.drew | apply RpI.drewN | apply RpI.alloc)) hr hg)
          clear hr hg
          clear HI
          have HI := HI'
          clear HI'
          refine hK.out _ _ ?_ (fun hHeld => ?_)
          · (try dsimp only); (first | done | trivial)
          clear hK K
          try simp only [Act.put, List.setIfInBounds_toArray, List.set_cons_zero, List.set_cons_succ]
          refine wpAnyH_ready (rs := [5, 9]) (by kernel_rfl) (by simp) ?_
          refine AllReadyH.cons (by simp only [List.getElem?_toArray, List.getElem?_cons_succ, List.getElem?_cons_zero]; first | done | rfl) (fun K hK => ?_) ?_
          · skip
            refine step_call rfl (nearP_any (ust b 0).num _ (RS.num_bd _).1 (RS.num_bd _).2) (by go_simp; all_goals first | rfl | (simp only [IntKind.wrap_u64]; rfl)) ?_
            rintro e _ ⟨rfl, rfl⟩
            refine ⟨_, rfl, ?_⟩
            refine hK.out _ _ ?_ (fun hHeld => ?_)
            · (try dsimp only); (first | done | trivial)
            clear hK K
            try simp only [Act.put, List.setIfInBounds_toArray, List.set_cons_zero, List.set_cons_succ]
            refine wpAnyH_ready (rs := [7, 9]) (by kernel_rfl) (by simp) ?_
            refine AllReadyH.cons (by simp only [List.getElem?_toArray, List.getElem?_cons_succ, List.getElem?_cons_zero]; first | done | rfl) (fun K hK => ?_) ?_
            · skip
              refine step_call rfl (num_u g b 1 _ (RpI.rdr (by repeat (first | exact HI.out | apply RpI.drew | apply RpI.drewN | apply RpI.alloc))) hl) (by go_simp; all_goals first | rfl | (simp only [IntKind.wrap_u64]; rfl)) ?_
              rintro e v2 ⟨rfl, hr, hg⟩
              refine ⟨_, rfl, ?_⟩
              have HI' := Lib.hid (RpI.read (z' := ust b 2) (by repeat (first | exact HI.out | apply RpI.drew | apply RpI.drewN | apply RpI.alloc)) hr hg)
              clear hr hg
              clear HI
              have HI := HI'
              clear HI'
              refine hK.out _ _ ?_ (fun hHeld => ?_)
              · (try dsimp only); (first | done | trivial)
              clear hK K
              try simp only [Act.put, List.setIfInBounds_toArray, List.set_cons_zero, List.set_cons_succ]
              refine wpAnyH_take (i := 8) (v := ?_) (by simp only [List.getElem?_toArray, List.getElem?_cons_succ, List.getElem?_cons_zero]; first | done | rfl) (by kernel_rfl) (by kernel_rfl) (by kernel_rfl) (fun _ _ _ h => h) (Or.inl ⟨by rfl, ?hy⟩) (by assumption) ?_
              case hy => (intro w hSw; (try dsimp only at hSw); go_simp; all_goals with_reducible rfl)
              try simp only [Act.put, List.setIfInBounds_toArray, List.set_cons_zero, List.set_cons_succ]
              refine wpAnyH_ready (rs := [9]) (by kernel_rfl) (by simp) ?_
              refine AllReadyH.cons (by simp only [List.getElem?_toArray, List.getElem?_cons_succ, List.getElem?_cons_zero]; first | done | rfl) (fun K hK => ?_) ?_
              · skip
                refine step_value rfl (run_alloc_op rfl (run_alloc_ent _)) ?_
                try dsimp only
                obtain ⟨g5, hg5⟩ : ∃ g5, g5 = v2.heap.size := ⟨_, rfl⟩
                try rw [show v2.drew.heap.size = v2.heap.size from rfl]
                rw [← hg5]
                refine k_world (fun W' => EA g5 [] 0 0 W' ∧ RpI w W' g (ust b 2) ∧ g < g5) ⟨(by rw [hg5]; first | exact EA.new [] 0 0 _ | exact (EA.new [] 0 0 _).drew), (by repeat (first | exact HI.out | apply RpI.drew | apply RpI.drewN | apply RpI.alloc)), (by rw [hg5]; exact RpI.glt (by repeat (first | exact HI.out | apply RpI.drew | apply RpI.drewN | apply RpI.alloc)))⟩ ?_
                rintro v2 ⟨hu, hi, hgg⟩
                have HE := Lib.hid hu
                have HGG := Lib.hid hgg
                clear HI
                have HI := Lib.hid hi
                clear hu hi hgg hg5
                refine hK.out _ _ ?_ (fun hHeld => ?_)
                · (try dsimp only); (first | done | trivial)
                clear hK K
                try simp only [Act.put, List.setIfInBounds_toArray, List.set_cons_zero, List.set_cons_succ]
                refine wpAnyH_ready (rs := [10]) (by kernel_rfl) (by simp) ?_
                refine AllReadyH.cons (by simp only [List.getElem?_toArray, List.getElem?_cons_succ, List.getElem?_cons_zero]; first | done | rfl) (fun K hK => ?_) ?_
                · skip
                  refine step_store_ent rfl (.tmp 5) (.tmp 34) rfl g5 (lmpOut 32 b 0) (nearF (ust b 0).num) (ust b 1).num rfl rfl [] 0 0 (by repeat (first | exact HE.out | apply EA.drew | apply EA.drewN | apply EA.alloc)) ?_
                  intro v2 hv2
                  have HG := Lib.hid (show RpI w v2 g (ust b 2) ∧ EA g5 (lmpOut 32 b 0) (nearF (ust b 0).num) (ust b 1).num v2 from ⟨by rw [hv2]; exact RpI.setRow (by repeat (first | exact HI.out | apply RpI.drew | apply RpI.drewN | apply RpI.alloc)) HGG.out _, by rw [hv2]; exact ⟨setRow_heap _ _ _ _ _ _ (EA.row (by repeat (first | exact HE.out | apply EA.drew | apply EA.drewN | apply EA.alloc)))⟩⟩)
                  clear hv2
                  refine hK.out _ _ ?_ (fun hHeld => ?_)
                  · (try dsimp only); (first | done | trivial)
                  clear hK K
                  try simp only [Act.put, List.setIfInBounds_toArray, List.set_cons_zero, List.set_cons_succ]
                  refine wpAnyH_done (by kernel_rfl) ?_ _
                  refine NoPanic.normal ?_
                  go_wp2_with fail
                  go_meet
                  exact ⟨g5, rfl, HG.out.1, HG.out.2, HGG.out⟩
                exact AllReadyH.nil
              exact AllReadyH.nil
            refine AllReadyH.cons (by simp only [List.getElem?_toArray, List.getElem?_cons_succ, List.getElem?_cons_zero]; first | done | rfl) (fun K hK => ?_) ?_
            · skip
              refine step_value rfl (run_alloc_op rfl (run_alloc_ent _)) ?_
              try dsimp only
              obtain ⟨g5, hg5⟩ : ∃ g5, g5 = v2.heap.size := ⟨_, rfl⟩
              try rw [show v2.drew.heap.size = v2.heap.size from rfl]
              rw [← hg5]
              refine k_world (fun W' => EA g5 [] 0 0 W' ∧ RpI w W' g (ust b 1) ∧ g < g5) ⟨(by rw [hg5]; first | exact EA.new [] 0 0 _ | exact (EA.new [] 0 0 _).drew), (by repeat (first | exact HI.out | apply RpI.drew | apply RpI.drewN | apply RpI.alloc)), (by rw [hg5]; exact RpI.glt (by repeat (first | exact HI.out | apply RpI.drew | apply RpI.drewN | apply RpI.alloc)))⟩ ?_
              rintro v2 ⟨hu, hi, hgg⟩
              have HE := Lib.hid hu
              have HGG := Lib.hid hgg
              clear HI
              have HI := Lib.hid hi
              clear hu hi hgg hg5
              refine hK.out _ _ ?_ (fun hHeld => ?_)
              · (try dsimp only); (first | done | trivial)
              clear hK K
              try simp only [Act.put, List.setIfInBounds_toArray, List.set_cons_zero, List.set_cons_succ]
              refine wpAnyH_ready (rs := [7]) (by kernel_rfl) (by simp) ?_
              refine AllReadyH.cons (by simp only [List.getElem?_toArray, List.getElem?_cons_succ, List.getElem?_cons_zero]; first | done | rfl) (fun K hK => ?_) ?_
              · skip
                refine step_call rfl (num_u g b 1 _ (RpI.rdr (by repeat (first | exact HI.out | apply RpI.drew | apply RpI.drewN | apply RpI.alloc))) hl) (by go_simp; all_goals first | rfl | (simp only [IntKind.wrap_u64]; rfl)) ?_
                rintro e v2 ⟨rfl, hr, hg⟩
                refine ⟨_, rfl, ?_⟩
                have HI' := Lib.hid (RpI.read (z' := ust b 2) (by repeat (first | exact HI.out | apply RpI.drew | apply RpI.drewN | apply RpI.alloc)) hr hg)
                have HE' := Lib.hid (EA.grown (by repeat (first | exact HE.out | apply EA.drew | apply EA.drewN | apply EA.alloc)) hg (fun e => by have := HGG.out; simp at e; omega))
                clear hr hg
                clear HI HE
                have HI := HI'
                have HE := HE'
                clear HI' HE'
                refine hK.out _ _ ?_ (fun hHeld => ?_)
                · (try dsimp only); (first | done | trivial)
                clear hK K
                try simp only [Act.put, List.setIfInBounds_toArray, List.set_cons_zero, List.set_cons_succ]
                refine wpAnyH_take (i := 8) (v := ?_) (by simp only [List.getElem?_toArray, List.getElem?_cons_succ, List.getElem?_cons_zero]; first | done | rfl) (by kernel_rfl) (by kernel_rfl) (by kernel_rfl) (fun _ _ _ h => h) (Or.inl ⟨by rfl, ?hy⟩) (by assumption) ?_
                case hy => (intro w hSw; (try dsimp only at hSw); go_simp; all_goals with_reducible rfl)
                try simp only [Act.put, List.setIfInBounds_toArray, List.set_cons_zero, List.set_cons_succ]
                refine wpAnyH_ready (rs := [10]) (by kernel_rfl) (by simp) ?_
                refine AllReadyH.cons (by simp only [List.getElem?_toArray, List.getElem?_cons_succ, List.getElem?_cons_zero]; first | done | rfl) (fun K hK => ?_) ?_
                · skip
                  refine step_store_ent rfl (.tmp 5) (.tmp 34) rfl g5 (lmpOut 32 b 0) (nearF (ust b 0).num) (ust b 1).num rfl rfl [] 0 0 (by repeat (first | exact HE.out | apply EA.drew | apply EA.drewN | apply EA.alloc)) ?_
                  intro v2 hv2
                  have HG := Lib.hid (show RpI w v2 g (ust b 2) ∧ EA g5 (lmpOut 32 b 0) (nearF (ust b 0).num) (ust b 1).num v2 from ⟨by rw [hv2]; exact RpI.setRow (by repeat (first | exact HI.out | apply RpI.drew | apply RpI.drewN | apply RpI.alloc)) HGG.out _, by rw [hv2]; exact ⟨setRow_heap _ _ _ _ _ _ (EA.row (by repeat (first | exact HE.out | apply EA.drew | apply EA.drewN | apply EA.alloc)))⟩⟩)
                  clear hv2
                  refine hK.out _ _ ?_ (fun hHeld => ?_)
                  · (try dsimp only); (first | done | trivial)
                  clear hK K
                  try simp only [Act.put, List.setIfInBounds_toArray, List.set_cons_zero, List.set_cons_succ]
                  refine wpAnyH_done (by kernel_rfl) ?_ _
                  refine NoPanic.normal ?_
                  go_wp2_with fail
                  go_meet
                  exact ⟨g5, rfl, HG.out.1, HG.out.2, HGG.out⟩
                exact AllReadyH.nil
              exact AllReadyH.nil
            exact AllReadyH.nil
          refine AllReadyH.cons (by simp only [List.getElem?_toArray, List.getElem?_cons_succ, List.getElem?_cons_zero]; first | done | rfl) (fun K hK => ?_) ?_
          · skip
            refine step_value rfl (run_alloc_op rfl (run_alloc_ent _)) ?_
            try dsimp only
            obtain ⟨g5, hg5⟩ : ∃ g5, g5 = v2.heap.size := ⟨_, rfl⟩
            try rw [show v2.drew.heap.size = v2.heap.size from rfl]
            rw [← hg5]
            refine k_world (fun W' => EA g5 [] 0 0 W' ∧ RpI w W' g (ust b 1) ∧ g < g5) ⟨(by rw [hg5]; first | exact EA.new [] 0 0 _ | exact (EA.new [] 0 0 _).drew), (by repeat (first | exact HI.out | apply RpI.drew | apply RpI.drewN | apply RpI.alloc)), (by rw [hg5]; exact RpI.glt (by repeat (first | exact HI.out | apply RpI.drew | apply RpI.drewN | apply RpI.alloc)))⟩ ?_
            rintro v2 ⟨hu, hi, hgg⟩
            have HE := Lib.hid hu
            have HGG := Lib.hid hgg
            clear HI
            have HI := Lib.hid hi
            clear hu hi hgg hg5
            refine hK.out _ _ ?_ (fun hHeld => ?_)
            · (try dsimp only); (first | done | trivial)
            clear hK K
            try simp only [Act.put, List.setIfInBounds_toArray, List.set_cons_zero, List.set_cons_succ]
            refine wpAnyH_ready (rs := [5]) (by kernel_rfl) (by simp) ?_
            refine AllReadyH.cons (by simp only [List.getElem?_toArray, List.getElem?_cons_succ, List.getElem?_cons_zero]; first | done | rfl) (fun K hK => ?_) ?_
            · skip
              refine step_call rfl (nearP_any (ust b 0).num _ (RS.num_bd _).1 (RS.num_bd _).2) (by go_simp; all_goals first | rfl | (simp only [IntKind.wrap_u64]; rfl)) ?_
              rintro e _ ⟨rfl, rfl⟩
              refine ⟨_, rfl, ?_⟩
              refine hK.out _ _ ?_ (fun hHeld => ?_)
              · (try dsimp only); (first | done | trivial)
              clear hK K
              try simp only [Act.put, List.setIfInBounds_toArray, List.set_cons_zero, List.set_cons_succ]
              refine wpAnyH_ready (rs := [7]) (by kernel_rfl) (by simp) ?_
              refine AllReadyH.cons (by simp only [List.getElem?_toArray, List.getElem?_cons_succ, List.getElem?_cons_zero]; first | done | rfl) (fun K hK => ?_) ?_
              · skip
                refine step_call rfl (num_u g b 1 _ (RpI.rdr (by repeat (first | exact HI.out | apply RpI.drew | apply RpI.drewN | apply RpI.alloc))) hl) (by go_simp; all_goals first | rfl | (simp only [IntKind.wrap_u64]; rfl)) ?_
                rintro e v2 ⟨rfl, hr, hg⟩
                refine ⟨_, rfl, ?_⟩
                have HI' := Lib.hid (RpI.read (z' := ust b 2) (by repeat (first | exact HI.out | apply RpI.drew | apply RpI.drewN | apply RpI.alloc)) hr hg)
                have HE' := Lib.hid (EA.grown (by repeat (first | exact HE.out | apply EA.drew | apply EA.drewN | apply EA.alloc)) hg (fun e => by have := HGG.out; simp at e; omega))
                clear hr hg
                clear HI HE
                have HI := HI'
                have HE := HE'
                clear HI' HE'
                refine hK.out _ _ ?_ (fun hHeld => ?_)
                · (try dsimp only); (first | done | trivial)
                clear hK K
                try simp only [Act.put, List.setIfInBounds_toArray, List.set_cons_zero, List.set_cons_succ]
                refine wpAnyH_take (i := 8) (v := ?_) (by simp only [List.getElem?_toArray, List.getElem?_cons_succ, List.getElem?_cons_zero]; first | done | rfl) (by kernel_rfl) (by kernel_rfl) (by kernel_rfl) (fun _ _ _ h => h) (Or.inl ⟨by rfl, ?hy⟩) (by assumption) ?_
                case hy => (intro w hSw; (try dsimp only at hSw); go_simp; all_goals with_reducible rfl)
                try simp only [Act.put, List.setIfInBounds_toArray, List.set_cons_zero, List.set_cons_succ]
                refine wpAnyH_ready (rs := [10]) (by kernel_rfl) (by simp) ?_
                refine AllReadyH.cons (by simp only [List.getElem?_toArray, List.getElem?_cons_succ, List.getElem?_cons_zero]; first | done | rfl) (fun K hK => ?_) ?_
                · skip
                  refine step_store_ent rfl (.tmp 5) (.tmp 34) rfl g5 (lmpOut 32 b 0) (nearF (ust b 0).num) (ust b 1).num rfl rfl [] 0 0 (by repeat (first | exact HE.out | apply EA.drew | apply EA.drewN | apply EA.alloc)) ?_
                  intro v2 hv2
                  have HG := Lib.hid (show RpI w v2 g (ust b 2) ∧ EA g5 (lmpOut 32 b 0) (nearF (ust b 0).num) (ust b 1).num v2 from ⟨by rw [hv2]; exact RpI.setRow (by repeat (first | exact HI.out | apply RpI.drew | apply RpI.drewN | apply RpI.alloc)) HGG.out _, by rw [hv2]; exact ⟨setRow_heap _ _ _ _ _ _ (EA.row (by repeat (first | exact HE.out | apply EA.drew | apply EA.drewN | apply EA.alloc)))⟩⟩)
                  clear hv2
                  refine hK.out _ _ ?_ (fun hHeld => ?_)
                  · (try dsimp only); (first | done | trivial)
                  clear hK K
                  try simp only [Act.put, List.setIfInBounds_toArray, List.set_cons_zero, List.set_cons_succ]
                  refine wpAnyH_done (by kernel_rfl) ?_ _
                  refine NoPanic.normal ?_
                  go_wp2_with fail
                  go_meet
                  exact ⟨g5, rfl, HG.out.1, HG.out.2, HGG.out⟩
                exact AllReadyH.nil
              exact AllReadyH.nil
            exact AllReadyH.nil
          exact AllReadyH.nil
        refine AllReadyH.cons (by simp only [List.getElem?_toArray, List.getElem?_cons_succ, List.getElem?_cons_zero]; first | done | rfl) (fun K hK => ?_) ?_
        · skip
          refine step_value rfl (run_alloc_op rfl (run_alloc_ent _)) ?_
          try dsimp only
          obtain ⟨g5, hg5⟩ : ∃ g5, g5 = v2.heap.size := ⟨_, rfl⟩
          try rw [show v2.drew.heap.size = v2.heap.size from rfl]
          rw [← hg5]
          refine k_world (fun W' => EA g5 [] 0 0 W' ∧ RpI w W' g (ust b 0) ∧ g < g5) ⟨(by rw [hg5]; first | exact EA.new [] 0 0 _ | exact (EA.new [] 0 0 _).drew), (by repeat (first | exact HI.out | apply RpI.drew | apply RpI.drewN | apply RpI.alloc)), (by rw [hg5]; exact RpI.glt (by repeat (first | exact HI.out | apply RpI.drew | apply RpI.drewN | apply RpI.alloc)))⟩ ?_
          rintro v2 ⟨hu, hi, hgg⟩
          have HE := Lib.hid hu
          have HGG := Lib.hid hgg
          clear HI
          have HI := Lib.hid hi
          clear hu hi hgg hg5
          refine hK.out _ _ ?_ (fun hHeld => ?_)
          · (try dsimp only); (first | done | trivial)
          clear hK K
          try simp only [Act.put, List.setIfInBounds_toArray, List.set_cons_zero, List.set_cons_succ]
          refine wpAnyH_ready (rs := [4]) (by kernel_rfl) (by simp) ?_
          refine AllReadyH.cons (by simp only [List.getElem?_toArray, List.getElem?_cons_succ, List.getElem?_cons_zero]; first | done | rfl) (fun K hK => ?_) ?_
          · skip
            refine step_call rfl (num_u g b 0 _ (RpI.rdr (by repeat (first | exact HI.out | apply RpI.drew | apply RpI.drewN | apply RpI.alloc))) hl) (by go_simp; all_goals first | rfl | (simp only [IntKind.wrap_u64]; rfl)) ?_
            rintro e v2 ⟨rfl, hr, hg⟩
            refine ⟨_, rfl, ?_⟩
            have HI' := Lib.hid (RpI.read (z' := ust b 1) (by repeat (first | exact HI.out | apply RpI.drew | apply RpI.drewN | apply RpI.alloc)) hr hg)
            have HE' := Lib.hid (EA.grown (by repeat (first | exact HE.out | apply EA.drew | apply EA.drewN | apply EA.alloc)) hg (fun e => by have := HGG.out; simp at e; omega))
            clear hr hg
            clear HI HE
            have HI := HI'
            have HE := HE'
            clear HI' HE'
            refine hK.out _ _ ?_ (fun hHeld => ?_)
            · (try dsimp only); (first | done | trivial)
            clear hK K
            try simp only [Act.put, List.setIfInBounds_toArray, List.set_cons_zero, List.set_cons_succ]
            refine wpAnyH_ready (rs := [5]) (by kernel_rfl) (by simp) ?_
            refine AllReadyH.cons (by simp only [List.getElem?_toArray, List.getElem?_cons_succ, List.getElem?_cons_zero]; first | done | rfl) (fun K hK => ?_) ?_
            · skip
              refine step_call rfl (nearP_any (ust b 0).num _ (RS.num_bd _).1 (RS.num_bd _).2) (by go_simp; all_goals first | rfl | (simp only [IntKind.wrap_u64]; rfl)) ?_
              rintro e _ ⟨rfl, rfl⟩
              refine ⟨_, rfl, ?_⟩
              refine hK.out _ _ ?_ (fun hHeld => ?_)
              · (try dsimp only); (first | done | trivial)
              clear hK K
              try simp only [Act.put, List.setIfInBounds_toArray, List.set_cons_zero, List.set_cons_succ]
              refine wpAnyH_ready (rs := [7]) (by kernel_rfl) (by simp) ?_
              refine AllReadyH.cons (by simp only [List.getElem?_toArray, List.getElem?_cons_succ, List.getElem?_cons_zero]; first | done | rfl) (fun K hK => ?_) ?_
              · skip
                refine step_call rfl (num_u g b 1 _ (RpI.rdr (by repeat (first | exact HI.out | apply RpI.drew | apply RpI.drewN | apply RpI.alloc))) hl) (by go_simp; all_goals first | rfl | (simp only [IntKind.wrap_u64]; rfl)) ?_
                rintro e v2 ⟨rfl, hr, hg⟩
                refine ⟨_, rfl, ?_⟩
                have HI' := Lib.hid (RpI.read (z' := ust b 2) (by repeat (first | exact HI.out | apply RpI.drew | apply RpI.drewN | apply RpI.alloc)) hr hg)
                have HE' := Lib.hid (EA.grown (by repeat (first | exact HE.out | apply EA.drew | apply EA.drewN | apply EA.alloc)) hg (fun e => by have := HGG.out; simp at e; omega))
                clear hr hg
                clear HI HE
                have HI := HI'
                have HE := HE'
                clear HI' HE'
                refine hK.out _ _ ?_ (fun hHeld => ?_)
                · (try dsimp only); (first | done | trivial)
                clear hK K
                try simp only [Act.put, List.setIfInBounds_toArray, List.set_cons_zero, List.set_cons_succ]
                refine wpAnyH_take (i := 8) (v := ?_) (by simp only [List.getElem?_toArray, List.getElem?_cons_succ, List.getElem?_cons_zero]; first | done | rfl) (by kernel_rfl) (by kernel_rfl) (by kernel_rfl) (fun _ _ _ h => h) (Or.inl ⟨by rfl, ?hy⟩) (by assumption) ?_
                case hy => (intro w hSw; (try dsimp only at hSw); go_simp; all_goals with_reducible rfl)
                try simp only [Act.put, List.setIfInBounds_toArray, List.set_cons_zero, List.set_cons_succ]
                refine wpAnyH_ready (rs := [10]) (by kernel_rfl) (by simp) ?_
                refine AllReadyH.cons (by simp only [List.getElem?_toArray, List.getElem?_cons_succ, List.getElem?_cons_zero]; first | done | rfl) (fun K hK => ?_) ?_
                · skip
                  refine step_store_ent rfl (.tmp 5) (.tmp 34) rfl g5 (lmpOut 32 b 0) (nearF (ust b 0).num) (ust b 1).num rfl rfl [] 0 0 (by repeat (first | exact HE.out | apply EA.drew | apply EA.drewN | apply EA.alloc)) ?_
                  intro v2 hv2
                  have HG := Lib.hid (show RpI w v2 g (ust b 2) ∧ EA g5 (lmpOut 32 b 0) (nearF (ust b 0).num) (ust b 1).num v2 from ⟨by rw [hv2]; exact RpI.setRow (by repeat (first | exact HI.out | apply RpI.drew | apply RpI.drewN | apply RpI.alloc)) HGG.out _, by rw [hv2]; exact ⟨setRow_heap _ _ _ _ _ _ (EA.row (by repeat (first | exact HE.out | apply EA.drew | apply EA.drewN | apply EA.alloc)))⟩⟩)
                  clear hv2
                  refine hK.out _ _ ?_ (fun hHeld => ?_)
                  · (try dsimp only); (first | done | trivial)
                  clear hK K
                  try simp only [Act.put, List.setIfInBounds_toArray, List.set_cons_zero, List.set_cons_succ]
                  refine wpAnyH_done (by kernel_rfl) ?_ _
                  refine NoPanic.normal ?_
                  go_wp2_with fail
                  go_meet
                  exact ⟨g5, rfl, HG.out.1, HG.out.2, HGG.out⟩
                exact AllReadyH.nil
              exact AllReadyH.nil
            exact AllReadyH.nil
          exact AllReadyH.nil
        exact AllReadyH.nil
      refine AllReadyH.cons (by simp only [List.getElem?_toArray, List.getElem?_cons_succ, List.getElem?_cons_zero]; first | done | rfl) (fun K hK => ?_) ?_
      · skip
        refine step_call rfl (num_u g b 0 _ (RpI.rdr (by repeat (first | exact HI.out | apply RpI.drew | apply RpI.drewN | apply RpI.alloc))) hl) (by go_simp; all_goals first | rfl | (simp only [IntKind.wrap_u64]; rfl)) ?_
        rintro e v2 ⟨rfl, hr, hg⟩
        refine ⟨_, rfl, ?_⟩
        have HI' := Lib.hid (RpI.read (z' := ust b 1) (by repeat (first | exact HI.out | apply RpI.drew | apply RpI.drewN | apply RpI.alloc)) hr hg)
        have HO' := Lib.hid (Own.grownG (by repeat (first | exact HO.out | apply own_drew | apply own_drewN' | apply Own.alloc)) hg)
        clear hr hg
        clear HI HO
        have HI := HI'
        have HO := HO'
        clear HI' HO'
        refine hK.out _ _ ?_ (fun hHeld => ?_)
        · (try dsimp only); (first | done | trivial)
        clear hK K
        try simp only [Act.put, List.setIfInBounds_toArray, List.set_cons_zero, List.set_cons_succ]
        refine wpAnyH_ready (rs := [2, 5, 9]) (by kernel_rfl) (by simp) ?_
        refine AllReadyH.cons (by simp only [List.getElem?_toArray, List.getElem?_cons_succ, List.getElem?_cons_zero]; first | done | rfl) (fun K hK => ?_) ?_
        · skip
          refine step_conv_bs rfl (.tmp 27) rfl rfl (Own.rd (by repeat (first | exact HO.out | apply own_drew | apply own_drewN' | apply Own.alloc))) ?_
          refine hK.out _ _ ?_ (fun hHeld => ?_)
          · (try dsimp only); (first | done | trivial)
          clear hK K
          try simp only [Act.put, List.setIfInBounds_toArray, List.set_cons_zero, List.set_cons_succ]
          refine wpAnyH_ready (rs := [5, 9]) (by kernel_rfl) (by simp) ?_
          refine AllReadyH.cons (by simp only [List.getElem?_toArray, List.getElem?_cons_succ, List.getElem?_cons_zero]; first | done | rfl) (fun K hK => ?_) ?_
          · skip
            refine step_call rfl (nearP_any (ust b 0).num _ (RS.num_bd _).1 (RS.num_bd _).2) (by go_simp; all_goals first | rfl | (simp only [IntKind.wrap_u64]; rfl)) ?_
            rintro e _ ⟨rfl, rfl⟩
            refine ⟨_, rfl, ?_⟩
            refine hK.out _ _ ?_ (fun hHeld => ?_)
            · (try dsimp only); (first | done | trivial)
            clear hK K
            try simp only [Act.put, List.setIfInBounds_toArray, List.set_cons_zero, List.set_cons_succ]
            refine wpAnyH_ready (rs := [7, 9]) (by kernel_rfl) (by simp) ?_
            refine AllReadyH.cons (by simp only [List.getElem?_toArray, List.getElem?_cons_succ, List.getElem?_cons_zero]; first | done | rfl) (fun K hK => ?_) ?_
            · skip
              refine step_call rfl (num_u g b 1 _ (RpI.rdr (by repeat (first | exact HI.out | apply RpI.drew | apply RpI.drewN | apply RpI.alloc))) hl) (by go_simp; all_goals first | rfl | (simp only [IntKind.wrap_u64]; rfl)) ?_
              rintro e v2 ⟨rfl, hr, hg⟩
              refine ⟨_, rfl, ?_⟩
              have HI' := Lib.hid (RpI.read (z' := ust b 2) (by repeat (first | exact HI.out | apply RpI.drew | apply RpI.drewN | apply RpI.alloc)) hr hg)
              clear hr hg
              clear HI
              have HI := HI'
              clear HI'
              refine hK.out _ _ ?_ (fun hHeld => ?_)
              · (try dsimp only); (first | done | trivial)
              clear hK K
              try simp only [Act.put, List.setIfInBounds_toArray, List.set_cons_zero, List.set_cons_succ]
              refine wpAnyH_take (i := 8) (v := ?_) (by simp only [List.getElem?_toArray, List.getElem?_cons_succ, List.getElem?_cons_zero]; first | done | rfl) (by kernel_rfl) (by kernel_rfl) (by kernel_rfl) (fun _ _ _ h => h) (Or.inl ⟨by rfl, ?hy⟩) (by assumption) ?_
              case hy => (intro w hSw; (try dsimp only at hSw); go_simp; all_goals with_reducible rfl)
              try simp only [Act.put, List.setIfInBounds_toArray, List.set_cons_zero, List.set_cons_succ]
              refine wpAnyH_ready (rs := [9]) (by kernel_rfl) (by simp) ?_
              refine AllReadyH.cons (by simp only [List.getElem?_toArray, List.getElem?_cons_succ, List.getElem?_cons_zero]; first | done | rfl) (fun K hK => ?_) ?_
              · skip
                refine step_value rfl (run_alloc_op rfl (run_alloc_ent _)) ?_
                try dsimp only
                obtain ⟨g5, hg5⟩ : ∃ g5, g5 = v2.heap.size := ⟨_, rfl⟩
                try rw [show v2.drew.heap.size = v2.heap.size from rfl]
                rw [← hg5]
                refine k_world (fun W' => EA g5 [] 0 0 W' ∧ RpI w W' g (ust b 2) ∧ g < g5) ⟨(by rw [hg5]; first | exact EA.new [] 0 0 _ | exact (EA.new [] 0 0 _).drew), (by repeat (first | exact HI.out | apply RpI.drew | apply RpI.drewN | apply RpI.alloc)), (by rw [hg5]; exact RpI.glt (by repeat (first | exact HI.out | apply RpI.drew | apply RpI.drewN | apply RpI.alloc)))⟩ ?_
                rintro v2 ⟨hu, hi, hgg⟩
                have HE := Lib.hid hu
                have HGG := Lib.hid hgg
                clear HI
                have HI := Lib.hid hi
                clear hu hi hgg hg5
                refine hK.out _ _ ?_ (fun hHeld => ?_)
                · (try dsimp only); (first | done | trivial)
                clear hK K
                try simp only [Act.put, List.setIfInBounds_toArray, List.set_cons_zero, List.set_cons_succ]
                refine wpAnyH_ready (rs := [10]) (by kernel_rfl) (by simp) ?_
                refine AllReadyH.cons (by simp only [List.getElem?_toArray, List.getElem?_cons_succ, List.getElem?_cons_zero]; first | done | rfl) (fun K hK => ?_) ?_
                · skip
                  refine step_store_ent rfl (.tmp 5) (.tmp 34) rfl g5 (lmpOut 32 b 0) (nearF (ust b 0).num) (ust b 1).num rfl rfl [] 0 0 (by repeat (first | exact HE.out | apply EA.drew | apply EA.drewN | apply EA.alloc)) ?_
                  intro v2 hv2
                  have HG := Lib.hid (show RpI w v2 g (ust b 2) ∧ EA g5 (lmpOut 32 b 0) (nearF (ust b 0).num) (ust b 1).num v2 from ⟨by rw [hv2]; exact RpI.setRow (by repeat (first | exact HI.out | apply RpI.drew | apply RpI.drewN | apply RpI.alloc)) HGG.out _, by rw [hv2]; exact ⟨setRow_heap _ _ _ _ _ _ (EA.row (by repeat (first | exact HE.out | apply EA.drew | apply EA.drewN | apply EA.alloc)))⟩⟩)
                  clear hv2
                  refine hK.out _ _ ?_ (fun hHeld => ?_)
                  · (try dsimp only); (first | done | trivial)
                  clear hK K
                  try simp only [Act.put, List.setIfInBounds_toArray, List.set_cons_zero, List.set_cons_succ]
                  refine wpAnyH_done (by kernel_rfl) ?_ _
                  refine NoPanic.normal ?_
                  go_wp2_with fail
                  go_meet
                  exact ⟨g5, rfl, HG.out.1, HG.out.2, HGG.out⟩
                exact AllReadyH.nil
              exact AllReadyH.nil
            refine AllReadyH.cons (by simp only [List.getElem?_toArray, List.getElem?_cons_succ, List.getElem?_cons_zero]; first | done | rfl) (fun K hK => ?_) ?_
            · skip
              refine step_value rfl (run_alloc_op rfl (run_alloc_ent _)) ?_
              try dsimp only
              obtain ⟨g5, hg5⟩ : ∃ g5, g5 = v2.heap.size := ⟨_, rfl⟩
              try rw [show v2.drew.heap.size = v2.heap.size from rfl]
              rw [← hg5]
              refine k_world (fun W' => EA g5 [] 0 0 W' ∧ RpI w W' g (ust b 1) ∧ g < g5) ⟨(by rw [hg5]; first | exact EA.new [] 0 0 _ | exact (EA.new [] 0 0 _).drew), (by repeat (first | exact HI.out | apply RpI.drew | apply RpI.drewN | apply RpI.alloc)), (by rw [hg5]; exact RpI.glt (by repeat (first | exact HI.out | apply RpI.drew | apply RpI.drewN | apply RpI.alloc)))⟩ ?_
              rintro v2 ⟨hu, hi, hgg⟩
              have HE := Lib.hid hu
              have HGG := Lib.hid hgg
              clear HI
              have HI := Lib.hid hi
              clear hu hi hgg hg5
              refine hK.out _ _ ?_ (fun hHeld => ?_)
              · (try dsimp only); (first | done | trivial)
              clear hK K
              try simp only [Act.put, List.setIfInBounds_toArray, List.set_cons_zero, List.set_cons_succ]
              refine wpAnyH_ready (rs := [7]) (by kernel_rfl) (by simp) ?_
              refine AllReadyH.cons (by simp only [List.getElem?_toArray, List.getElem?_cons_succ, List.getElem?_cons_zero]; first | done | rfl) (fun K hK => ?_) ?_
              · skip
                refine step_call rfl (num_u g b 1 _ (RpI.rdr (by repeat (first | exact HI.out | apply RpI.drew | apply RpI.drewN | apply RpI.alloc))) hl) (by go_simp; all_goals first | rfl | (simp only [IntKind.wrap_u64]; rfl)) ?_
                rintro e v2 ⟨rfl, hr, hg⟩
                refine ⟨_, rfl, ?_⟩
                have HI' := Lib.hid (RpI.read (z' := ust b 2) (by repeat (first | exact HI.out | apply RpI.drew | apply RpI.drewN | apply RpI.alloc)) hr hg)
                have HE' := Lib.hid (EA.grown (by repeat (first | exact HE.out | apply EA.drew | apply EA.drewN | apply EA.alloc)) hg (fun e => by have := HGG.out; simp at e; omega))
                clear hr hg
                clear HI HE
                have HI := HI'
                have HE := HE'
                clear HI' HE'
                refine hK.out _ _ ?_ (fun hHeld => ?_)
                · (try dsimp only); (first | done | trivial)
                clear hK K
                try simp only [Act.put, List.setIfInBounds_toArray, List.set_cons_zero, List.set_cons_succ]
                refine wpAnyH_take (i := 8) (v := ?_) (by simp only [List.getElem?_toArray, List.getElem?_cons_succ, List.getElem?_cons_zero]; first | done | rfl) (by kernel_rfl) (by kernel_rfl) (by kernel_rfl) (fun _ _ _ h => h) (Or.inl ⟨by rfl, ?hy⟩) (by assumption) ?_
                case hy => (intro w hSw; (try dsimp only at hSw); go_simp; all_goals with_reducible rfl)
                try simp only [Act.put, List.setIfInBounds_toArray, List.set_cons_zero, List.set_cons_succ]
                refine wpAnyH_ready (rs := [10]) (by kernel_rfl) (by simp) ?_
                refine AllReadyH.cons (by simp only [List.getElem?_toArray, List.getElem?_cons_succ, List.getElem?_cons_zero]; first | done | rfl) (fun K hK => ?_) ?_
                · skip
                  refine step_store_ent rfl (.tmp 5) (.tmp 34) rfl g5 (lmpOut 32 b 0) (nearF (ust b 0).num) (ust b 1).num rfl rfl [] 0 0 (by repeat (first | exact HE.out | apply EA.drew | apply EA.drewN | apply EA.alloc)) ?_
                  intro v2 hv2
                  have HG := Lib.hid (show RpI w v2 g (ust b 2) ∧ EA g5 (lmpOut 32 b 0) (nearF (ust b 0).num) (ust b 1).num v2 from ⟨by rw [hv2]; exact RpI.setRow (by repeat (first | exact HI.out | apply RpI.drew | apply RpI.drewN | apply RpI.alloc)) HGG.out _, by rw [hv2]; exact ⟨setRow_heap _ _ _ _ _ _ (EA.row (by repeat (first | exact HE.out | apply EA.drew | apply EA.drewN | apply EA.alloc)))⟩⟩)
                  clear hv2
                  refine hK.out _ _ ?_ (fun hHeld => ?_)
                  · (try dsimp only); (first | done | trivial)
                  clear hK K
                  try simp only [Act.put, List.setIfInBounds_toArray, List.set_cons_zero, List.set_cons_succ]
                  refine wpAnyH_done (by kernel_rfl) ?_ _
                  refine NoPanic.normal ?_
                  go_wp2_with fail
                  go_meet
                  exact ⟨g5, rfl, HG.out.1, HG.out.2, HGG.out⟩
                exact AllReadyH.nil
              exact AllReadyH.nil
            exact AllReadyH.nil
          refine AllReadyH.cons (by simp only [List.getElem?_toArray, List.getElem?_cons_succ, List.getElem?_cons_zero]; first | done | rfl) (fun K hK => ?_) ?_
          · skip
            refine step_value rfl (run_alloc_op rfl (run_alloc_ent _)) ?_
            try dsimp only
            obtain ⟨g5, hg5⟩ : ∃ g5, g5 = v2.heap.size := ⟨_, rfl⟩
            try rw [show v2.drew.heap.size = v2.heap.size from rfl]
            rw [← hg5]
            refine k_world (fun W' => EA g5 [] 0 0 W' ∧ RpI w W' g (ust b 1) ∧ g < g5) ⟨(by rw [hg5]; first | exact EA.new [] 0 0 _ | exact (EA.new [] 0 0 _).drew), (by repeat (first | exact HI.out | apply RpI.drew | apply RpI.drewN | apply RpI.alloc)), (by rw [hg5]; exact RpI.glt (by repeat (first | exact HI.out | apply RpI.drew | apply RpI.drewN | apply RpI.alloc)))⟩ ?_
            rintro v2 ⟨hu, hi, hgg⟩
            have HE := Lib.hid hu
            have HGG := Lib.hid hgg
            clear HI
            have HI := Lib.hid hi
            clear hu hi hgg hg5
            refine hK.out _ _ ?_ (fun hHeld => ?_)
            · (try dsimp only); (first | done | trivial)
            clear hK K
            try simp only [Act.put, List.setIfInBounds_toArray, List.set_cons_zero, List.set_cons_succ]
            refine wpAnyH_ready (rs := [5]) (by kernel_rfl) (by simp) ?_
            refine AllReadyH.cons (by simp only [List.getElem?_toArray, List.getElem?_cons_succ, List.getElem?_cons_zero]; first | done | rfl) (fun K hK => ?_) ?_
            · skip
              refine step_call rfl (nearP_any (ust b 0).num _ (RS.num_bd _).1 (RS.num_bd _).2) (by go_simp; all_goals first | rfl | (simp only [IntKind.wrap_u64]; rfl)) ?_
              rintro e _ ⟨rfl, rfl⟩
              refine ⟨_, rfl, ?_⟩
              refine hK.out _ _ ?_ (fun hHeld => ?_)
              · (try dsimp only); (first | done | trivial)
              clear hK K
              try simp only [Act.put, List.setIfInBounds_toArray, List.set_cons_zero, List.set_cons_succ]
              refine wpAnyH_ready (rs := [7]) (by kernel_rfl) (by simp) ?_
              refine AllReadyH.cons (by simp only [List.getElem?_toArray, List.getElem?_cons_succ, List.getElem?_cons_zero]; first | done | rfl) (fun K hK => ?_) ?_
              · skip
                refine step_call rfl (num_u g b 1 _ (RpI.rdr (by repeat (first | exact HI.out | apply RpI.drew | apply RpI.drewN | apply RpI.alloc))) hl) (by go_simp; all_goals first | rfl | (simp only [IntKind.wrap_u64]; rfl)) ?_
                rintro e v2 ⟨rfl, hr, hg⟩
                refine ⟨_, rfl, ?_⟩
                have HI' := Lib.hid (RpI.read (z' := ust b 2) (by repeat (first | exact HI.out | apply RpI.drew | apply RpI.drewN | apply RpI.alloc)) hr hg)
                have HE' := Lib.hid (EA.grown (by repeat (first | exact HE.out | apply EA.drew | apply EA.drewN | apply EA.alloc)) hg (fun e => by have := HGG.out; simp at e; omega))
                clear hr hg
                clear HI HE
                have HI := HI'
                have HE := HE'
                clear HI' HE'
                refine hK.out _ _ ?_ (fun hHeld => ?_)
                · (try dsimp only); (first | done | trivial)
                clear hK K
                try simp only [Act.put, List.setIfInBounds_toArray, List.set_cons_zero, List.set_cons_succ]
                refine wpAnyH_take (i := 8) (v := ?_) (by simp only [List.getElem?_toArray, List.getElem?_cons_succ, List.getElem?_cons_zero]; first | done | rfl) (by kernel_rfl) (by kernel_rfl) (by kernel_rfl) (fun _ _ _ h => h) (Or.inl ⟨by rfl, ?hy⟩) (by assumption) ?_
                case hy => (intro w hSw; (try dsimp only at hSw); go_simp; all_goals with_reducible rfl)
                try simp only [Act.put, List.setIfInBounds_toArray, List.set_cons_zero, List.set_cons_succ]
                refine wpAnyH_ready (rs := [10]) (by kernel_rfl) (by simp) ?_
                refine AllReadyH.cons (by simp only [List.getElem?_toArray, List.getElem?_cons_succ, List.getElem?_cons_zero]; first | done | rfl) (fun K hK => ?_) ?_
                · skip
                  refine step_store_ent rfl (.tmp 5) (.tmp 34) rfl g5 (lmpOut 32 b 0) (nearF (ust b 0).num) (ust b 1).num rfl rfl [] 0 0 (by repeat (first | exact HE.out | apply EA.drew | apply EA.drewN | apply EA.alloc)) ?_
                  intro v2 hv2
                  have HG := Lib.hid (show RpI w v2 g (ust b 2) ∧ EA g5 (lmpOut 32 b 0) (nearF (ust b 0).num) (ust b 1).num v2 from ⟨by rw [hv2]; exact RpI.setRow (by repeat (first | exact HI.out | apply RpI.drew | apply RpI.drewN | apply RpI.alloc)) HGG.out _, by rw [hv2]; exact ⟨setRow_heap _ _ _ _ _ _ (EA.row (by repeat (first | exact HE.out | apply EA.drew | apply EA.drewN | apply EA.alloc)))⟩⟩)
                  clear hv2
                  refine hK.out _ _ ?_ (fun hHeld => ?_)
                  · (try dsimp only); (first | done | trivial)
                  clear hK K
                  try simp only [Act.put, List.setIfInBounds_toArray, List.set_cons_zero, List.set_cons_succ]
                  refine wpAnyH_done (by kernel_rfl) ?_ _
                  refine NoPanic.normal ?_
                  go_wp2_with fail
                  go_meet
                  exact ⟨g5, rfl, HG.out.1, HG.out.2, HGG.out⟩
                exact AllReadyH.nil
              exact AllReadyH.nil
            exact AllReadyH.nil
          exact AllReadyH.nil
        refine AllReadyH.cons (by simp only [List.getElem?_toArray, List.getElem?_cons_succ, List.getElem?_cons_zero]; first | done | rfl) (fun K hK => ?_) ?_
        · skip
          refine step_call rfl (nearP_any (ust b 0).num _ (RS.num_bd _).1 (RS.num_bd _).2) (by go_simp; all_goals first | rfl | (simp only [IntKind.wrap_u64]; rfl)) ?_
          rintro e _ ⟨rfl, rfl⟩
          refine ⟨_, rfl, ?_⟩
          refine hK.out _ _ ?_ (fun hHeld => ?_)
          · (try dsimp only); (first | done | trivial)
          clear hK K
          try simp only [Act.put, List.setIfInBounds_toArray, List.set_cons_zero, List.set_cons_succ]
          refine wpAnyH_ready (rs := [2, 7, 9]) (by kernel_rfl) (by simp) ?_
          refine AllReadyH.cons (by simp only [List.getElem?_toArray, List.getElem?_cons_succ, List.getElem?_cons_zero]; first | done | rfl) (fun K hK => ?_) ?_
          · skip
            refine step_conv_bs rfl (.tmp 27) rfl rfl (Own.rd (by repeat (first | exact HO.out | apply own_drew | apply own_drewN' | apply Own.alloc))) ?_
            refine hK.out _ _ ?_ (fun hHeld => ?_)
            · (try dsimp only); (first | done | trivial)
            clear hK K
            try simp only [Act.put, List.setIfInBounds_toArray, List.set_cons_zero, List.set_cons_succ]
            refine wpAnyH_ready (rs := [7, 9]) (by kernel_rfl) (by simp) ?_
            refine AllReadyH.cons (by simp only [List.getElem?_toArray, List.getElem?_cons_succ, List.getElem?_cons_zero]; first | done | rfl) (fun K hK => ?_) ?_
            · skip
              refine step_call rfl (num_u g b 1 _ (RpI.rdr (by repeat (first | exact HI.out | apply RpI.drew | apply RpI.drewN | apply RpI.alloc))) hl) (by go_simp; all_goals first | rfl | (simp only [IntKind.wrap_u64]; rfl)) ?_
              rintro e v2 ⟨rfl, hr, hg⟩
              refine ⟨_, rfl, ?_⟩
              have HI' := Lib.hid (RpI.read (z' := ust b 2) (by repeat (first | exact HI.out | apply RpI.drew | apply RpI.drewN | apply RpI.alloc)) hr hg)
              clear hr hg
              clear HI
              have HI := HI'
              clear HI'
              refine hK.out _ _ ?_ (fun hHeld => ?_)
              · (try dsimp only); (first | done | trivial)
              clear hK K
              try simp only [Act.put, List.setIfInBounds_toArray, List.set_cons_zero, List.set_cons_succ]
              refine wpAnyH_take (i := 8) (v := ?_) (by simp only [List.getElem?_toArray, List.getElem?_cons_succ, List.getElem?_cons_zero]; first | done | rfl) (by kernel_rfl) (by kernel_rfl) (by kernel_rfl) (fun _ _ _ h => h) (Or.inl ⟨by rfl, ?hy⟩) (by assumption) ?_
              case hy => (intro w hSw; (try dsimp only at hSw); go_simp; all_goals with_reducible rfl)
              try simp only [Act.put, List.setIfInBounds_toArray, List.set_cons_zero, List.set_cons_succ]
              refine wpAnyH_ready (rs := [9]) (by kernel_rfl) (by simp) ?_
              refine AllReadyH.cons (by simp only [List.getElem?_toArray, List.getElem?_cons_succ, List.getElem?_cons_zero]; first | done | rfl) (fun K hK => ?_) ?_
              · skip
                refine step_value rfl (run_alloc_op rfl (run_alloc_ent _)) ?_
                try dsimp only
                obtain ⟨g5, hg5⟩ : ∃ g5, g5 = v2.heap.size := ⟨_, rfl⟩
                try rw [show v2.drew.heap.size = v2.heap.size from rfl]
                rw [← hg5]
                refine k_world (fun W' => EA g5 [] 0 0 W' ∧ RpI w W' g (ust b 2) ∧ g < g5) ⟨(by rw [hg5]; first | exact EA.new [] 0 0 _ | exact (EA.new [] 0 0 _).drew), (by repeat (first | exact HI.out | apply RpI.drew | apply RpI.drewN | apply RpI.alloc)), (by rw [hg5]; exact RpI.glt (by repeat (first | exact HI.out | apply RpI.drew | apply RpI.drewN | apply RpI.alloc)))⟩ ?_
                rintro v2 ⟨hu, hi, hgg⟩
                have HE := Lib.hid hu
                have HGG := Lib.hid hgg
                clear HI
                have HI := Lib.hid hi
                clear hu hi hgg hg5
                refine hK.out _ _ ?_ (fun hHeld => ?_)
                · (try dsimp only); (first | done | trivial)
                clear hK K
                try simp only [Act.put, List.setIfInBounds_toArray, List.set_cons_zero, List.set_cons_succ]
                refine wpAnyH_ready (rs := [10]) (by kernel_rfl) (by simp) ?_
                refine AllReadyH.cons (by simp only [List.getElem?_toArray, List.getElem?_cons_succ, List.getElem?_cons_zero]; first | done | rfl) (fun K hK => ?_) ?_
                · skip
                  refine step_store_ent rfl (.tmp 5) (.tmp 34) rfl g5 (lmpOut 32 b 0) (nearF (ust b 0).num) (ust b 1).num rfl rfl [] 0 0 (by repeat (first | exact HE.out | apply EA.drew | apply EA.drewN | apply EA.alloc)) ?_
                  intro v2 hv2
                  have HG := Lib.hid (show RpI w v2 g (ust b 2) ∧ EA g5 (lmpOut 32 b 0) (nearF (ust b 0).num) (ust b 1).num v2 from ⟨by rw [hv2]; exact RpI.setRow (by repeat (first | exact HI.out | apply RpI.drew | apply RpI.drewN | apply RpI.alloc)) HGG.out _, by rw [hv2]; exact ⟨setRow_heap _ _ _ _ _ _ (EA.row (by repeat (first | exact HE.out | apply EA.drew | apply EA.drewN | apply EA.alloc)))⟩⟩)
                  clear hv2
                  refine hK.out _ _ ?_ (fun hHeld => ?_)
                  · (try dsimp only); (first | done | trivial)
                  clear hK K
                  try simp only [Act.put, List.setIfInBounds_toArray, List.set_cons_zero, List.set_cons_succ]
                  refine wpAnyH_done (by kernel_rfl) ?_ _
                  refine NoPanic.normal ?_
                  go_wp2_with fail
                  go_meet
                  exact ⟨g5, rfl, HG.out.1, HG.out.2, HGG.out⟩
                exact AllReadyH.nil
              exact AllReadyH.nil
            refine AllReadyH.cons (by simp only [List.getElem?_toArray, List.getElem?_cons_succ, List.getElem?_cons_zero]; first | done | rfl) (fun K hK => ?_) ?_
            · skip
              refine step_value rfl (run_alloc_op rfl (run_alloc_ent _)) ?_
              try dsimp only
              obtain ⟨g5, hg5⟩ : ∃ g5, g5 = v2.heap.size := ⟨_, rfl⟩
              try rw [show v2.drew.heap.size = v2.heap.size from rfl]
              rw [← hg5]
              refine k_world (fun W' => EA g5 [] 0 0 W' ∧ RpI w W' g (ust b 1) ∧ g < g5) ⟨(by rw [hg5]; first | exact EA.new [] 0 0 _ | exact (EA.new [] 0 0 _).drew), (by repeat (first | exact HI.out | apply RpI.drew | apply RpI.drewN | apply RpI.alloc)), (by rw [hg5]; exact RpI.glt (by repeat (first | exact HI.out | apply RpI.drew | apply RpI.drewN | apply RpI.alloc)))⟩ ?_
              rintro v2 ⟨hu, hi, hgg⟩
              have HE := Lib.hid hu
              have HGG := Lib.hid hgg
              clear HI
              have HI := Lib.hid hi
              clear hu hi hgg hg5
              refine hK.out _ _ ?_ (fun hHeld => ?_)
              · (try dsimp only); (first | done | trivial)
              clear hK K
              try simp only [Act.put, List.setIfInBounds_toArray, List.set_cons_zero, List.set_cons_succ]
              refine wpAnyH_ready (rs := [7]) (by kernel_rfl) (by simp) ?_
              refine AllReadyH.cons (by simp only [List.getElem?_toArray, List.getElem?_cons_succ, List.getElem?_cons_zero]; first | done | rfl) (fun K hK => ?_) ?_
              · skip
                refine step_call rfl (num_u g b 1 _ (RpI.rdr (by repeat (first | exact HI.out | apply RpI.drew | apply RpI.drewN | apply RpI.alloc))) hl) (by go_simp; all_goals first | rfl | (simp only [IntKind.wrap_u64]; rfl)) ?_
                rintro e v2 ⟨rfl, hr, hg⟩
                refine ⟨_, rfl, ?_⟩
                have HI' := Lib.hid (RpI.read (z' := ust b 2) (by repeat (first | exact HI.out | apply RpI.drew | apply RpI.drewN | apply RpI.alloc)) hr hg)
                have HE' := Lib.hid (EA.grown (by repeat (first | exact HE.out | apply EA.drew | apply EA.drewN | apply EA.alloc)) hg (fun e => by have := HGG.out; simp at e; omega))
                clear hr hg
                clear HI HE
                have HI := HI'
                have HE := HE'
                clear HI' HE'
                refine hK.out _ _ ?_ (fun hHeld => ?_)
                · (try dsimp only); (first | done | trivial)
                clear hK K
                try simp only [Act.put, List.setIfInBounds_toArray, List.set_cons_zero, List.set_cons_succ]
                refine wpAnyH_take (i := 8) (v := ?_) (by simp only [List.getElem?_toArray, List.getElem?_cons_succ, List.getElem?_cons_zero]; first | done | rfl) (by kernel_rfl) (by kernel_rfl) (by kernel_rfl) (fun _ _ _ h => h) (Or.inl ⟨by rfl, ?hy⟩) (by assumption) ?_
                case hy => (intro w hSw; (try dsimp only at hSw); go_simp; all_goals with_reducible rfl)
                try simp only [Act.put, List.setIfInBounds_toArray, List.set_cons_zero, List.set_cons_succ]
                refine wpAnyH_ready (rs := [10]) (by kernel_rfl) (by simp) ?_
                refine AllReadyH.cons (by simp only [List.getElem?_toArray, List.getElem?_cons_succ, List.getElem?_cons_zero]; first | done | rfl) (fun K hK => ?_) ?_
                · skip
                  refine step_store_ent rfl (.tmp 5) (.tmp 34) rfl g5 (lmpOut 32 b 0) (nearF (ust b 0).num) (ust b 1).num rfl rfl [] 0 0 (by repeat (first | exact HE.out | apply EA.drew | apply EA.drewN | apply EA.alloc)) ?_
                  intro v2 hv2
                  have HG := Lib.hid (show RpI w v2 g (ust b 2) ∧ EA g5 (lmpOut 32 b 0) (nearF (ust b 0).num) (ust b 1).num v2 from ⟨by rw [hv2]; exact RpI.setRow (by repeat (first | exact HI.out | apply RpI.drew | apply RpI.drewN | apply RpI.alloc)) HGG.out _, by rw [hv2]; exact ⟨setRow_heap _ _ _ _ _ _ (EA.row (by repeat (first | exact HE.out | apply EA.drew | apply EA.drewN | apply EA.alloc)))⟩⟩)
                  clear hv2
                  refine hK.out _ _ ?_ (fun hHeld => ?_)
                  · (try dsimp only); (first | done | trivial)
                  clear hK K
                  try simp only [Act.put, List.setIfInBounds_toArray, List.set_cons_zero, List.set_cons_succ]
                  refine wpAnyH_done (by kernel_rfl) ?_ _
                  refine NoPanic.normal ?_
                  go_wp2_with fail
                  go_meet
                  exact ⟨g5, rfl, HG.out.1, HG.out.2, HGG.out⟩
                exact AllReadyH.nil
              exact AllReadyH.nil
            exact AllReadyH.nil
          refine AllReadyH.cons (by simp only [List.getElem?_toArray, List.getElem?_cons_succ, List.getElem?_cons_zero]; first | done | rfl) (fun K hK => ?_) ?_
          · skip
            refine step_call rfl (num_u g b 1 _ (RpI.rdr (by repeat (first | exact HI.out | apply RpI.drew | apply RpI.drewN | apply RpI.alloc))) hl) (by go_simp; all_goals first | rfl | (simp only [IntKind.wrap_u64]; rfl)) ?_
            rintro e v2 ⟨rfl, hr, hg⟩
            refine ⟨_, rfl, ?_⟩
            have HI' := Lib.hid (RpI.read (z' := ust b 2) (by repeat (first | exact HI.out | apply RpI.drew | apply RpI.drewN | apply RpI.alloc)) hr hg)
            have HO' := Lib.hid (Own.grownG (by repeat (first | exact HO.out | apply own_drew | apply own_drewN' | apply Own.alloc)) hg)
            clear hr hg
            clear HI HO
            have HI := HI'
            have HO := HO'
            clear HI' HO'
            refine hK.out _ _ ?_ (fun hHeld => ?_)
            · (try dsimp only); (first | done | trivial)
            clear hK K
            try simp only [Act.put, List.setIfInBounds_toArray, List.set_cons_zero, List.set_cons_succ]
            refine wpAnyH_ready (rs := [2, 9]) (by kernel_rfl) (by simp) ?_
            refine AllReadyH.cons (by simp only [List.getElem?_toArray, List.getElem?_cons_succ, List.getElem?_cons_zero]; first | done | rfl) (fun K hK => ?_) ?_
            · skip
              refine step_conv_bs rfl (.tmp 27) rfl rfl (Own.rd (by repeat (first | exact HO.out | apply own_drew | apply own_drewN' | apply Own.alloc))) ?_
              refine hK.out _ _ ?_ (fun hHeld => ?_)
              · (try dsimp only); (first | done | trivial)
              clear hK K
              try simp only [Act.put, List.setIfInBounds_toArray, List.set_cons_zero, List.set_cons_succ]
              refine wpAnyH_take (i := 8) (v := ?_) (by simp only [List.getElem?_toArray, List.getElem?_cons_succ, List.getElem?_cons_zero]; first | done | rfl) (by kernel_rfl) (by kernel_rfl) (by kernel_rfl) (fun _ _ _ h => h) (Or.inl ⟨by rfl, ?hy⟩) (by assumption) ?_
              case hy => (intro w hSw; (try dsimp only at hSw); go_simp; all_goals with_reducible rfl)
              try simp only [Act.put, List.setIfInBounds_toArray, List.set_cons_zero, List.set_cons_succ]
              refine wpAnyH_ready (rs := [9]) (by kernel_rfl) (by simp) ?_
              refine AllReadyH.cons (by simp only [List.getElem?_toArray, List.getElem?_cons_succ, List.getElem?_cons_zero]; first | done | rfl) (fun K hK => ?_) ?_
              · skip
                refine step_value rfl (run_alloc_op rfl (run_alloc_ent _)) ?_
                try dsimp only
                obtain ⟨g5, hg5⟩ : ∃ g5, g5 = v2.heap.size := ⟨_, rfl⟩
                try rw [show v2.drew.heap.size = v2.heap.size from rfl]
                rw [← hg5]
                refine k_world (fun W' => EA g5 [] 0 0 W' ∧ RpI w W' g (ust b 2) ∧ g < g5) ⟨(by rw [hg5]; first | exact EA.new [] 0 0 _ | exact (EA.new [] 0 0 _).drew), (by repeat (first | exact HI.out | apply RpI.drew | apply RpI.drewN | apply RpI.alloc)), (by rw [hg5]; exact RpI.glt (by repeat (first | exact HI.out | apply RpI.drew | apply RpI.drewN | apply RpI.alloc)))⟩ ?_
                rintro v2 ⟨hu, hi, hgg⟩
                have HE := Lib.hid hu
                have HGG := Lib.hid hgg
                clear HI
                have HI := Lib.hid hi
                clear hu hi hgg hg5
                refine hK.out _ _ ?_ (fun hHeld => ?_)
                · (try dsimp only); (first | done | trivial)
                clear hK K
                try simp only [Act.put, List.setIfInBounds_toArray, List.set_cons_zero, List.set_cons_succ]
                refine wpAnyH_ready (rs := [10]) (by kernel_rfl) (by simp) ?_
                refine AllReadyH.cons (by simp only [List.getElem?_toArray, List.getElem?_cons_succ, List.getElem?_cons_zero]; first | done | rfl) (fun K hK => ?_) ?_
                · skip
                  refine step_store_ent rfl (.tmp 5) (.tmp 34) rfl g5 (lmpOut 32 b 0) (nearF (ust b 0).num) (ust b 1).num rfl rfl [] 0 0 (by repeat (first | exact HE.out | apply EA.drew | apply EA.drewN | apply EA.alloc)) ?_
                  intro v2 hv2
                  have HG := Lib.hid (show RpI w v2 g (ust b 2) ∧ EA g5 (lmpOut 32 b 0) (nearF (ust b 0).num) (ust b 1).num v2 from ⟨by rw [hv2]; exact RpI.setRow (by repeat (first | exact HI.out | apply RpI.drew | apply RpI.drewN | apply RpI.alloc)) HGG.out _, by rw [hv2]; exact ⟨setRow_heap _ _ _ _ _ _ (EA.row (by repeat (first | exact HE.out | apply EA.drew | apply EA.drewN | apply EA.alloc)))⟩⟩)
                  clear hv2
                  refine hK.out _ _ ?_ (fun hHeld => ?_)
                  · (try dsimp only); (first | done | trivial)
                  clear hK K
                  try simp only [Act.put, List.setIfInBounds_toArray, List.set_cons_zero, List.set_cons_succ]
                  refine wpAnyH_done (by kernel_rfl) ?_ _
                  refine NoPanic.normal ?_
                  go_wp2_with fail
                  go_meet
                  exact ⟨g5, rfl, HG.out.1, HG.out.2, HGG.out⟩
                exact AllReadyH.nil
              exact AllReadyH.nil
            refine AllReadyH.cons (by simp only [List.getElem?_toArray, List.getElem?_cons_succ, List.getElem?_cons_zero]; first | done | rfl) (fun K hK => ?_) ?_
            · skip
              refine step_value rfl (run_alloc_op rfl (run_alloc_ent _)) ?_
              try dsimp only
              obtain ⟨g5, hg5⟩ : ∃ g5, g5 = v2.heap.size := ⟨_, rfl⟩
              try rw [show v2.drew.heap.size = v2.heap.size from rfl]
              rw [← hg5]
              refine k_world (fun W' => EA g5 [] 0 0 W' ∧ RpI w W' g (ust b 2) ∧ g < g5 ∧ Own W' (g + 1) (.slice b2 (lmpOut 32 b 0).length c2) (lmpOut 32 b 0)) ⟨(by rw [hg5]; first | exact EA.new [] 0 0 _ | exact (EA.new [] 0 0 _).drew), (by repeat (first | exact HI.out | apply RpI.drew | apply RpI.drewN | apply RpI.alloc)), (by rw [hg5]; exact RpI.glt (by repeat (first | exact HI.out | apply RpI.drew | apply RpI.drewN | apply RpI.alloc))), (by repeat (first | exact HO.out | apply own_drew | apply own_drewN' | apply Own.alloc))⟩ ?_
              rintro v2 ⟨hu, hi, hgg, ho⟩
              have HE := Lib.hid hu
              have HGG := Lib.hid hgg
              clear HI
              have HI := Lib.hid hi
              clear HO
              have HO := Lib.hid ho
              clear ho
              clear hu hi hgg hg5
              refine hK.out _ _ ?_ (fun hHeld => ?_)
              · (try dsimp only); (first | done | trivial)
              clear hK K
              try simp only [Act.put, List.setIfInBounds_toArray, List.set_cons_zero, List.set_cons_succ]
              refine wpAnyH_ready (rs := [2]) (by kernel_rfl) (by simp) ?_
              refine AllReadyH.cons (by simp only [List.getElem?_toArray, List.getElem?_cons_succ, List.getElem?_cons_zero]; first | done | rfl) (fun K hK => ?_) ?_
              · skip
                refine step_conv_bs rfl (.tmp 27) rfl rfl (Own.rd (by repeat (first | exact HO.out | apply own_drew | apply own_drewN' | apply Own.alloc))) ?_
                refine hK.out _ _ ?_ (fun hHeld => ?_)
                · (try dsimp only); (first | done | trivial)
                clear hK K
                try simp only [Act.put, List.setIfInBounds_toArray, List.set_cons_zero, List.set_cons_succ]
                refine wpAnyH_take (i := 8) (v := ?_) (by simp only [List.getElem?_toArray, List.getElem?_cons_succ, List.getElem?_cons_zero]; first | done | rfl) (by kernel_rfl) (by kernel_rfl) (by kernel_rfl) (fun _ _ _ h => h) (Or.inl ⟨by rfl, ?hy⟩) (by assumption) ?_
                case hy => (intro w hSw; (try dsimp only at hSw); go_simp; all_goals with_reducible rfl)
                try simp only [Act.put, List.setIfInBounds_toArray, List.set_cons_zero, List.set_cons_succ]
                refine wpAnyH_ready (rs := [10]) (by kernel_rfl) (by simp) ?_
                refine AllReadyH.cons (by simp only [List.getElem?_toArray, List.getElem?_cons_succ, List.getElem?_cons_zero]; first | done | rfl) (fun K hK => ?_) ?_
                · skip
                  refine step_store_ent rfl (.tmp 5) (.tmp 34) rfl g5 (lmpOut 32 b 0) (nearF (ust b 0).num) (ust b 1).num rfl rfl [] 0 0 (by repeat (first | exact HE.out | apply EA.drew | apply EA.drewN | apply EA.alloc)) ?_
                  intro v2 hv2
                  have HG := Lib.hid (show RpI w v2 g (ust b 2) ∧ EA g5 (lmpOut 32 b 0) (nearF (ust b 0).num) (ust b 1).num v2 from ⟨by rw [hv2]; exact RpI.setRow (by repeat (first | exact HI.out | apply RpI.drew | apply RpI.drewN | apply RpI.alloc)) HGG.out _, by rw [hv2]; exact ⟨setRow_heap _ _ _ _ _ _ (EA.row (by repeat (first | exact HE.out | apply EA.drew | apply EA.drewN | apply EA.alloc)))⟩⟩)
                  clear hv2
                  refine hK.out _ _ ?_ (fun hHeld => ?_)
                  · (try dsimp only); (first | done | trivial)
                  clear hK K
                  try simp only [Act.put, List.setIfInBounds_toArray, List.set_cons_zero, List.set_cons_succ]
                  refine wpAnyH_done (by kernel_rfl) ?_ _
                  refine NoPanic.normal ?_
                  go_wp2_with fail
                  go_meet
                  exact ⟨g5, rfl, HG.out.1, HG.out.2, HGG.out⟩
                exact AllReadyH.nil
              exact AllReadyH.nil
            exact AllReadyH.nil
          refine AllReadyH.cons (by simp only [List.getElem?_toArray, List.getElem?_cons_succ, List.getElem?_cons_zero]; first | done | rfl) (fun K hK => ?_) ?_
          · skip
            refine step_value rfl (run_alloc_op rfl (run_alloc_ent _)) ?_
            try dsimp only
            obtain ⟨g5, hg5⟩ : ∃ g5, g5 = v2.heap.size := ⟨_, rfl⟩
            try rw [show v2.drew.heap.size = v2.heap.size from rfl]
            rw [← hg5]
            refine k_world (fun W' => EA g5 [] 0 0 W' ∧ RpI w W' g (ust b 1) ∧ g < g5 ∧ Own W' (g + 1) (.slice b2 (lmpOut 32 b 0).length c2) (lmpOut 32 b 0)) ⟨(by rw [hg5]; first | exact EA.new [] 0 0 _ | exact (EA.new [] 0 0 _).drew), (by repeat (first | exact HI.out | apply RpI.drew | apply RpI.drewN | apply RpI.alloc)), (by rw [hg5]; exact RpI.glt (by repeat (first | exact HI.out | apply RpI.drew | apply RpI.drewN | apply RpI.alloc))), (by repeat (first | exact HO.out | apply own_drew | apply own_drewN' | apply Own.alloc))⟩ ?_
            rintro v2 ⟨hu, hi, hgg, ho⟩
            have HE := Lib.hid hu
            have HGG := Lib.hid hgg
            clear HI
            have HI := Lib.hid hi
            clear HO
            have HO := Lib.hid ho
            clear ho
            clear hu hi hgg hg5
            refine hK.out _ _ ?_ (fun hHeld => ?_)
            · (try dsimp only); (first | done | trivial)
            clear hK K
            try simp only [Act.put, List.setIfInBounds_toArray, List.set_cons_zero, List.set_cons_succ]
            refine wpAnyH_ready (rs := [2, 7]) (by kernel_rfl) (by simp) ?_
            refine AllReadyH.cons (by simp only [List.getElem?_toArray, List.getElem?_cons_succ, List.getElem?_cons_zero]; first | done | rfl) (fun K hK => ?_) ?_
            · skip
              refine step_conv_bs rfl (.tmp 27) rfl rfl (Own.rd (by repeat (first | exact HO.out | apply own_drew | apply own_drewN' | apply Own.alloc))) ?_
              refine hK.out _ _ ?_ (fun hHeld => ?_)
              · (try dsimp only); (first | done | trivial)
              clear hK K
              try simp only [Act.put, List.setIfInBounds_toArray, List.set_cons_zero, List.set_cons_succ]
              refine wpAnyH_ready (rs := [7]) (by kernel_rfl) (by simp) ?_
              refine AllReadyH.cons (by simp only [List.getElem?_toArray, List.getElem?_cons_succ, List.getElem?_cons_zero]; first | done | rfl) (fun K hK => ?_) ?_
              · skip
                refine step_call rfl (num_u g b 1 _ (RpI.rdr (by repeat (first | exact HI.out | apply RpI.drew | apply RpI.drewN | apply RpI.alloc))) hl) (by go_simp; all_goals first | rfl | (simp only [IntKind.wrap_u64]; rfl)) ?_
                rintro e v2 ⟨rfl, hr, hg⟩
                refine ⟨_, rfl, ?_⟩
                have HI' := Lib.hid (RpI.read (z' := ust b 2) (by repeat (first | exact HI.out | apply RpI.drew | apply RpI.drewN | apply RpI.alloc)) hr hg)
                have HE' := Lib.hid (EA.grown (by repeat (first | exact HE.out | apply EA.drew | apply EA.drewN | apply EA.alloc)) hg (fun e => by have := HGG.out; simp at e; omega))
                clear hr hg
                clear HI HE
                have HI := HI'
                have HE := HE'
                clear HI' HE'
                refine hK.out _ _ ?_ (fun hHeld => ?_)
                · (try dsimp only); (first | done | trivial)
                clear hK K
                try simp only [Act.put, List.setIfInBounds_toArray, List.set_cons_zero, List.set_cons_succ]
                refine wpAnyH_take (i := 8) (v := ?_) (by simp only [List.getElem?_toArray, List.getElem?_cons_succ, List.getElem?_cons_zero]; first | done | rfl) (by kernel_rfl) (by kernel_rfl) (by kernel_rfl) (fun _ _ _ h => h) (Or.inl ⟨by rfl, ?hy⟩) (by assumption) ?_
                case hy => (intro w hSw; (try dsimp only at hSw); go_simp; all_goals with_reducible rfl)
                try simp only [Act.put, List.setIfInBounds_toArray, List.set_cons_zero, List.set_cons_succ]
                refine wpAnyH_ready (rs := [10]) (by kernel_rfl) (by simp) ?_
                refine AllReadyH.cons (by simp only [List.getElem?_toArray, List.getElem?_cons_succ, List.getElem?_cons_zero]; first | done | rfl) (fun K hK => ?_) ?_
                · skip
                  refine step_store_ent rfl (.tmp 5) (.tmp 34) rfl g5 (lmpOut 32 b 0) (nearF (ust b 0).num) (ust b 1).num rfl rfl [] 0 0 (by repeat (first | exact HE.out | apply EA.drew | apply EA.drewN | apply EA.alloc)) ?_
                  intro v2 hv2
                  have HG := Lib.hid (show RpI w v2 g (ust b 2) ∧ EA g5 (lmpOut 32 b 0) (nearF (ust b 0).num) (ust b 1).num v2 from ⟨by rw [hv2]; exact RpI.setRow (by repeat (first | exact HI.out | apply RpI.drew | apply RpI.drewN | apply RpI.alloc)) HGG.out _, by rw [hv2]; exact ⟨setRow_heap _ _ _ _ _ _ (EA.row (by repeat (first | exact HE.out | apply EA.drew | apply EA.drewN | apply EA.alloc)))⟩⟩)
                  clear hv2
                  refine hK.out _ _ ?_ (fun hHeld => ?_)
                  · (try dsimp only); (first | done | trivial)
                  clear hK K
                  try simp only [Act.put, List.setIfInBounds_toArray, List.set_cons_zero, List.set_cons_succ]
                  refine wpAnyH_done (by kernel_rfl) ?_ _
                  refine NoPanic.normal ?_
                  go_wp2_with fail
                  go_meet
                  exact ⟨g5, rfl, HG.out.1, HG.out.2, HGG.out⟩
                exact AllReadyH.nil
              exact AllReadyH.nil
            refine AllReadyH.cons (by simp only [List.getElem?_toArray, List.getElem?_cons_succ, List.getElem?_cons_zero]; first | done | rfl) (fun K hK => ?_) ?_
            · skip
              refine step_call rfl (num_u g b 1 _ (RpI.rdr (by repeat (first | exact HI.out | apply RpI.drew | apply RpI.drewN | apply RpI.alloc))) hl) (by go_simp; all_goals first | rfl | (simp only [IntKind.wrap_u64]; rfl)) ?_
              rintro e v2 ⟨rfl, hr, hg⟩
              refine ⟨_, rfl, ?_⟩
              have HI' := Lib.hid (RpI.read (z' := ust b 2) (by repeat (first | exact HI.out | apply RpI.drew | apply RpI.drewN | apply RpI.alloc)) hr hg)
              have HO' := Lib.hid (Own.grownG (by repeat (first | exact HO.out | apply own_drew | apply own_drewN' | apply Own.alloc)) hg)
              have HE' := Lib.hid (EA.grown (by repeat (first | exact HE.out | apply EA.drew | apply EA.drewN | apply EA.alloc)) hg (fun e => by have := HGG.out; simp at e; omega))
              clear hr hg
              clear HI HO HE
              have HI := HI'
              have HO := HO'
              have HE := HE'
              clear HI' HO' HE'
              refine hK.out _ _ ?_ (fun hHeld => ?_)
              · (try dsimp only); (first | done | trivial)
              clear hK K
              try simp only [Act.put, List.setIfInBounds_toArray, List.set_cons_zero, List.set_cons_succ]
              refine wpAnyH_ready (rs := [2]) (by kernel_rfl) (by simp) ?_
              refine AllReadyH.cons (by simp only [List.getElem?_toArray, List.getElem?_cons_succ, List.getElem?_cons_zero]; first | done | rfl) (fun K hK => ?_) ?_
              · skip
                refine step_conv_bs rfl (.tmp 27) rfl rfl (Own.rd (by repeat (first | exact HO.out | apply own_drew | apply own_drewN' | apply Own.alloc))) ?_
                refine hK.out _ _ ?_ (fun hHeld => ?_)
                · (try dsimp only); (first | done | trivial)
                clear hK K
                try simp only [Act.put, List.setIfInBounds_toArray, List.set_cons_zero, List.set_cons_succ]
                refine wpAnyH_take (i := 8) (v := ?_) (by simp only [List.getElem?_toArray, List.getElem?_cons_succ, List.getElem?_cons_zero]; first | done | rfl) (by kernel_rfl) (by kernel_rfl) (by kernel_rfl) (fun _ _ _ h => h) (Or.inl ⟨by rfl, ?hy⟩) (by assumption) ?_
                case hy => (intro w hSw; (try dsimp only at hSw); go_simp; all_goals with_reducible rfl)
                try simp only [Act.put, List.setIfInBounds_toArray, List.set_cons_zero, List.set_cons_succ]
                refine wpAnyH_ready (rs := [10]) (by kernel_rfl) (by simp) ?_
                refine AllReadyH.cons (by simp only [List.getElem?_toArray, List.getElem?_cons_succ, List.getElem?_cons_zero]; first | done | rfl) (fun K hK => ?_) ?_
                · skip
                  refine step_store_ent rfl (.tmp 5) (.tmp 34) rfl g5 (lmpOut 32 b 0) (nearF (ust b 0).num) (ust b 1).num rfl rfl [] 0 0 (by repeat (first | exact HE.out | apply EA.drew | apply EA.drewN | apply EA.alloc)) ?_
                  intro v2 hv2
                  have HG := Lib.hid (show RpI w v2 g (ust b 2) ∧ EA g5 (lmpOut 32 b 0) (nearF (ust b 0).num) (ust b 1).num v2 from ⟨by rw [hv2]; exact RpI.setRow (by repeat (first | exact HI.out | apply RpI.drew | apply RpI.drewN | apply RpI.alloc)) HGG.out _, by rw [hv2]; exact ⟨setRow_heap _ _ _ _ _ _ (EA.row (by repeat (first | exact HE.out | apply EA.drew | apply EA.drewN | apply EA.alloc)))⟩⟩)
                  clear hv2
                  refine hK.out _ _ ?_ (fun hHeld => ?_)
                  · (try dsimp only); (first | done | trivial)
                  clear hK K
                  try simp only [Act.put, List.setIfInBounds_toArray, List.set_cons_zero, List.set_cons_succ]
                  refine wpAnyH_done (by kernel_rfl) ?_ _
                  refine NoPanic.normal ?_
                  go_wp2_with fail
                  go_meet
                  exact ⟨g5, rfl, HG.out.1, HG.out.2, HGG.out⟩
                exact AllReadyH.nil
              exact AllReadyH.nil
            exact AllReadyH.nil
          exact AllReadyH.nil
        refine AllReadyH.cons (by simp only [List.getElem?_toArray, List.getElem?_cons_succ, List.getElem?_cons_zero]; first | done | rfl) (fun K hK => ?_) ?_
        · skip
          refine step_value rfl (run_alloc_op rfl (run_alloc_ent _)) ?_
          try dsimp only
          obtain ⟨g5, hg5⟩ : ∃ g5, g5 = v2.heap.size := ⟨_, rfl⟩
          try rw [show v2.drew.heap.size = v2.heap.size from rfl]
          rw [← hg5]
          refine k_world (fun W' => EA g5 [] 0 0 W' ∧ RpI w W' g (ust b 1) ∧ g < g5 ∧ Own W' (g + 1) (.slice b2 (lmpOut 32 b 0).length c2) (lmpOut 32 b 0)) ⟨(by rw [hg5]; first | exact EA.new [] 0 0 _ | exact (EA.new [] 0 0 _).drew), (by repeat (first | exact HI.out | apply RpI.drew | apply RpI.drewN | apply RpI.alloc)), (by rw [hg5]; exact RpI.glt (by repeat (first | exact HI.out | apply RpI.drew | apply RpI.drewN | apply RpI.alloc))), (by repeat (first | exact HO.out | apply own_drew | apply own_drewN' | apply Own.alloc))⟩ ?_
          rintro v2 ⟨hu, hi, hgg, ho⟩
          have HE := Lib.hid hu
          have HGG := Lib.hid hgg
          clear HI
          have HI := Lib.hid hi
          clear HO
          have HO := Lib.hid ho
          clear ho
          clear hu hi hgg hg5
          refine hK.out _ _ ?_ (fun hHeld => ?_)
          · (try dsimp only); (first | done | trivial)
          clear hK K
          try simp only [Act.put, List.setIfInBounds_toArray, List.set_cons_zero, List.set_cons_succ]
          refine wpAnyH_ready (rs := [2, 5]) (by kernel_rfl) (by simp) ?_
          refine AllReadyH.cons (by simp only [List.getElem?_toArray, List.getElem?_cons_succ, List.getElem?_cons_zero]; first | done | rfl) (fun K hK => ?_) ?_
          · skip
            refine step_conv_bs rfl (.tmp 27) rfl rfl (Own.rd (by repeat (first | exact HO.out | apply own_drew | apply own_drewN' | apply Own.alloc))) ?_
            refine hK.out _ _ ?_ (fun hHeld => ?_)
            · (try dsimp only); (first | done | trivial)
            clear hK K
            try simp only [Act.put, List.setIfInBounds_toArray, List.set_cons_zero, List.set_cons_succ]
            refine wpAnyH_ready (rs := [5]) (by kernel_rfl) (by simp) ?_
            refine AllReadyH.cons (by simp only [List.getElem?_toArray, List.getElem?_cons_succ, List.getElem?_cons_zero]; first | done | rfl) (fun K hK => ?_) ?_
            · skip
              refine step_call rfl (nearP_any (ust b 0).num _ (RS.num_bd _).1 (RS.num_bd _).2) (by go_simp; all_goals first | rfl | (simp only [IntKind.wrap_u64]; rfl)) ?_
              rintro e _ ⟨rfl, rfl⟩
              refine ⟨_, rfl, ?_⟩
              refine hK.out _ _ ?_ (fun hHeld => ?_)
              · (try dsimp only); (first | done | trivial)
              clear hK K
              try simp only [Act.put, List.setIfInBounds_toArray, List.set_cons_zero, List.set_cons_succ]
              refine wpAnyH_ready (rs := [7]) (by kernel_rfl) (by simp) ?_
              refine AllReadyH.cons (by simp only [List.getElem?_toArray, List.getElem?_cons_succ, List.getElem?_cons_zero]; first | done | rfl) (fun K hK => ?_) ?_
              · skip
                refine step_call rfl (num_u g b 1 _ (RpI.rdr (by repeat (first | exact HI.out | apply RpI.drew | apply RpI.drewN | apply RpI.alloc))) hl) (by go_simp; all_goals first | rfl | (simp only [IntKind.wrap_u64]; rfl)) ?_
                rintro e v2 ⟨rfl, hr, hg⟩
                refine ⟨_, rfl, ?_⟩
                have HI' := Lib.hid (RpI.read (z' := ust b 2) (by repeat (first | exact HI.out | apply RpI.drew | apply RpI.drewN | apply RpI.alloc)) hr hg)
                have HE' := Lib.hid (EA.grown (by repeat (first | exact HE.out | apply EA.drew | apply EA.drewN | apply EA.alloc)) hg (fun e => by have := HGG.out; simp at e; omega))
                clear hr hg
                clear HI HE
                have HI := HI'
                have HE := HE'
                clear HI' HE'
                refine hK.out _ _ ?_ (fun hHeld => ?_)
                · (try dsimp only); (first | done | trivial)
                clear hK K
                try simp only [Act.put, List.setIfInBounds_toArray, List.set_cons_zero, List.set_cons_succ]
                refine wpAnyH_take (i := 8) (v := ?_) (by simp only [List.getElem?_toArray, List.getElem?_cons_succ, List.getElem?_cons_zero]; first | done | rfl) (by kernel_rfl) (by kernel_rfl) (by kernel_rfl) (fun _ _ _ h => h) (Or.inl ⟨by rfl, ?hy⟩) (by assumption) ?_
                case hy => (intro w hSw; (try dsimp only at hSw); go_simp; all_goals with_reducible rfl)
                try simp only [Act.put, List.setIfInBounds_toArray, List.set_cons_zero, List.set_cons_succ]
                refine wpAnyH_ready (rs := [10]) (by kernel_rfl) (by simp) ?_
                refine AllReadyH.cons (by simp only [List.getElem?_toArray, List.getElem?_cons_succ, List.getElem?_cons_zero]; first | done | rfl) (fun K hK => ?_) ?_
                · skip
                  refine step_store_ent rfl (.tmp 5) (.tmp 34) rfl g5 (lmpOut 32 b 0) (nearF (ust b 0).num) (ust b 1).num rfl rfl [] 0 0 (by repeat (first | exact HE.out | apply EA.drew | apply EA.drewN | apply EA.alloc)) ?_
                  intro v2 hv2
                  have HG := Lib.hid (show RpI w v2 g (ust b 2) ∧ EA g5 (lmpOut 32 b 0) (nearF (ust b 0).num) (ust b 1).num v2 from ⟨by rw [hv2]; exact RpI.setRow (by repeat (first | exact HI.out | apply RpI.drew | apply RpI.drewN | apply RpI.alloc)) HGG.out _, by rw [hv2]; exact ⟨setRow_heap _ _ _ _ _ _ (EA.row (by repeat (first | exact HE.out | apply EA.drew | apply EA.drewN | apply EA.alloc)))⟩⟩)
                  clear hv2
                  refine hK.out _ _ ?_ (fun hHeld => ?_)
                  · (try dsimp only); (first | done | trivial)
                  clear hK K
                  try simp only [Act.put, List.setIfInBounds_toArray, List.set_cons_zero, List.set_cons_succ]
                  refine wpAnyH_done (by kernel_rfl) ?_ _
                  refine NoPanic.normal ?_
                  go_wp2_with fail
                  go_meet
                  exact ⟨g5, rfl, HG.out.1, HG.out.2, HGG.out⟩
                exact AllReadyH.nil
              exact AllReadyH.nil
            exact AllReadyH.nil
          refine AllReadyH.cons (by simp only [List.getElem?_toArray, List.getElem?_cons_succ, List.getElem?_cons_zero]; first | done | rfl) (fun K hK => ?_) ?_
          · skip
            refine step_call rfl (nearP_any (ust b 0).num _ (RS.num_bd _).1 (RS.num_bd _).2) (by go_simp; all_goals first | rfl | (simp only [IntKind.wrap_u64]; rfl)) ?_
            rintro e _ ⟨rfl, rfl⟩
            refine ⟨_, rfl, ?_⟩
            refine hK.out _ _ ?_ (fun hHeld => ?_)
            · (try dsimp only); (first | done | trivial)
            clear hK K
            try simp only [Act.put, List.setIfInBounds_toArray, List.set_cons_zero, List.set_cons_succ]
            refine wpAnyH_ready (rs := [2, 7]) (by kernel_rfl) (by simp) ?_
            refine AllReadyH.cons (by simp only [List.getElem?_toArray, List.getElem?_cons_succ, List.getElem?_cons_zero]; first | done | rfl) (fun K hK => ?_) ?_
            · skip
              refine step_conv_bs rfl (.tmp 27) rfl rfl (Own.rd (by repeat (first | exact HO.out | apply own_drew | apply own_drewN' | apply Own.alloc))) ?_
              refine hK.out _ _ ?_ (fun hHeld => ?_)
              · (try dsimp only); (first | done | trivial)
              clear hK K
              try simp only [Act.put, List.setIfInBounds_toArray, List.set_cons_zero, List.set_cons_succ]
              refine wpAnyH_ready (rs := [7]) (by kernel_rfl) (by simp) ?_
              refine AllReadyH.cons (by simp only [List.getElem?_toArray, List.getElem?_cons_succ, List.getElem?_cons_zero]; first | done | rfl) (fun K hK => ?_) ?_
              · skip
                refine step_call rfl (num_u g b 1 _ (RpI.rdr (by repeat (first | exact HI.out | apply RpI.drew | apply RpI.drewN | apply RpI.alloc))) hl) (by go_simp; all_goals first | rfl | (simp only [IntKind.wrap_u64]; rfl)) ?_
                rintro e v2 ⟨rfl, hr, hg⟩
                refine ⟨_, rfl, ?_⟩
                have HI' := Lib.hid (RpI.read (z' := ust b 2) (by repeat (first | exact HI.out | apply RpI.drew | apply RpI.drewN | apply RpI.alloc)) hr hg)
                have HE' := Lib.hid (EA.grown (by repeat (first | exact HE.out | apply EA.drew | apply EA.drewN | apply EA.alloc)) hg (fun e => by have := HGG.out; simp at e; omega))
                clear hr hg
                clear HI HE
                have HI := HI'
                have HE := HE'
                clear HI' HE'
                refine hK.out _ _ ?_ (fun hHeld => ?_)
                · (try dsimp only); (first | done | trivial)
                clear hK K
                try simp only [Act.put, List.setIfInBounds_toArray, List.set_cons_zero, List.set_cons_succ]
                refine wpAnyH_take (i := 8) (v := ?_) (by simp only [List.getElem?_toArray, List.getElem?_cons_succ, List.getElem?_cons_zero]; first | done | rfl) (by kernel_rfl) (by kernel_rfl) (by kernel_rfl) (fun _ _ _ h => h) (Or.inl ⟨by rfl, ?hy⟩) (by assumption) ?_
                case hy => (intro w hSw; (try dsimp only at hSw); go_simp; all_goals with_reducible rfl)
                try simp only [Act.put, List.setIfInBounds_toArray, List.set_cons_zero, List.set_cons_succ]
                refine wpAnyH_ready (rs := [10]) (by kernel_rfl) (by simp) ?_
                refine AllReadyH.cons (by simp only [List.getElem?_toArray, List.getElem?_cons_succ, List.getElem?_cons_zero]; first | done | rfl) (fun K hK => ?_) ?_
                · skip
                  refine step_store_ent rfl (.tmp 5) (.tmp 34) rfl g5 (lmpOut 32 b 0) (nearF (ust b 0).num) (ust b 1).num rfl rfl [] 0 0 (by repeat (first | exact HE.out | apply EA.drew | apply EA.drewN | apply EA.alloc)) ?_
                  intro v2 hv2
                  have HG := Lib.hid (show RpI w v2 g (ust b 2) ∧ EA g5 (lmpOut 32 b 0) (nearF (ust b 0).num) (ust b 1).num v2 from ⟨by rw [hv2]; exact RpI.setRow (by repeat (first | exact HI.out | apply RpI.drew | apply RpI.drewN | apply RpI.alloc)) HGG.out _, by rw [hv2]; exact ⟨setRow_heap _ _ _ _ _ _ (EA.row (by repeat (first | exact HE.out | apply EA.drew | apply EA.drewN | apply EA.alloc)))⟩⟩)
                  clear hv2
                  refine hK.out _ _ ?_ (fun hHeld => ?_)
                  · (try dsimp only); (first | done | trivial)
                  clear hK K
                  try simp only [Act.put, List.setIfInBounds_toArray, List.set_cons_zero, List.set_cons_succ]
                  refine wpAnyH_done (by kernel_rfl) ?_ _
                  refine NoPanic.normal ?_
                  go_wp2_with fail
                  go_meet
                  exact ⟨g5, rfl, HG.out.1, HG.out.2, HGG.out⟩
                exact AllReadyH.nil
              exact AllReadyH.nil
            refine AllReadyH.cons (by simp only [List.getElem?_toArray, List.getElem?_cons_succ, List.getElem?_cons_zero]; first | done | rfl) (fun K hK => ?_) ?_
            · skip
              refine step_call rfl (num_u g b 1 _ (RpI.rdr (by repeat (first | exact HI.out | apply RpI.drew | apply RpI.drewN | apply RpI.alloc))) hl) (by go_simp; all_goals first | rfl | (simp only [IntKind.wrap_u64]; rfl)) ?_
              rintro e v2 ⟨rfl, hr, hg⟩
              refine ⟨_, rfl, ?_⟩
              have HI' := Lib.hid (RpI.read (z' := ust b 2) (by repeat (first | exact HI.out | apply RpI.drew | apply RpI.drewN | apply RpI.alloc)) hr hg)
              have HO' := Lib.hid (Own.grownG (by repeat (first | exact HO.out | apply own_drew | apply own_drewN' | apply Own.alloc)) hg)
              have HE' := Lib.hid (EA.grown (by repeat (first | exact HE.out | apply EA.drew | apply EA.drewN | apply EA.alloc)) hg (fun e => by have := HGG.out; simp at e; omega))
              clear hr hg
              clear HI HO HE
              have HI := HI'
              have HO := HO'
              have HE := HE'
              clear HI' HO' HE'
              refine hK.out _ _ ?_ (fun hHeld => ?_)
              · (try dsimp only); (first | done | trivial)
              clear hK K
              try simp only [Act.put, List.setIfInBounds_toArray, List.set_cons_zero, List.set_cons_succ]
              refine wpAnyH_ready (rs := [2]) (by kernel_rfl) (by simp) ?_
              refine AllReadyH.cons (by simp only [List.getElem?_toArray, List.getElem?_cons_succ, List.getElem?_cons_zero]; first | done | rfl) (fun K hK => ?_) ?_
              · skip
                refine step_conv_bs rfl (.tmp 27) rfl rfl (Own.rd (by repeat (first | exact HO.out | apply own_drew | apply own_drewN' | apply Own.alloc))) ?_
                refine hK.out _ _ ?_ (fun hHeld => ?_)
                · (try dsimp only); (first | done | trivial)
                clear hK K
                try simp only [Act.put, List.setIfInBounds_toArray, List.set_cons_zero, List.set_cons_succ]
                refine wpAnyH_take (i := 8) (v := ?_) (by simp only [List.getElem?_toArray, List.getElem?_cons_succ, List.getElem?_cons_zero]; first | done | rfl) (by kernel_rfl) (by kernel_rfl) (by kernel_rfl) (fun _ _ _ h => h) (Or.inl ⟨by rfl, ?hy⟩) (by assumption) ?_
                case hy => (intro w hSw; (try dsimp only at hSw); go_simp; all_goals with_reducible rfl)
                try simp only [Act.put, List.setIfInBounds_toArray, List.set_cons_zero, List.set_cons_succ]
                refine wpAnyH_ready (rs := [10]) (by kernel_rfl) (by simp) ?_
                refine AllReadyH.cons (by simp only [List.getElem?_toArray, List.getElem?_cons_succ, List.getElem?_cons_zero]; first | done | rfl) (fun K hK => ?_) ?_
                · skip
                  refine step_store_ent rfl (.tmp 5) (.tmp 34) rfl g5 (lmpOut 32 b 0) (nearF (ust b 0).num) (ust b 1).num rfl rfl [] 0 0 (by repeat (first | exact HE.out | apply EA.drew | apply EA.drewN | apply EA.alloc)) ?_
                  intro v2 hv2
                  have HG := Lib.hid (show RpI w v2 g (ust b 2) ∧ EA g5 (lmpOut 32 b 0) (nearF (ust b 0).num) (ust b 1).num v2 from ⟨by rw [hv2]; exact RpI.setRow (by repeat (first | exact HI.out | apply RpI.drew | apply RpI.drewN | apply RpI.alloc)) HGG.out _, by rw [hv2]; exact ⟨setRow_heap _ _ _ _ _ _ (EA.row (by repeat (first | exact HE.out | apply EA.drew | apply EA.drewN | apply EA.alloc)))⟩⟩)
                  clear hv2
                  refine hK.out _ _ ?_ (fun hHeld => ?_)
                  · (try dsimp only); (first | done | trivial)
                  clear hK K
                  try simp only [Act.put, List.setIfInBounds_toArray, List.set_cons_zero, List.set_cons_succ]
                  refine wpAnyH_done (by kernel_rfl) ?_ _
                  refine NoPanic.normal ?_
                  go_wp2_with fail
                  go_meet
                  exact ⟨g5, rfl, HG.out.1, HG.out.2, HGG.out⟩
                exact AllReadyH.nil
              exact AllReadyH.nil
            exact AllReadyH.nil
          exact AllReadyH.nil
        exact AllReadyH.nil
      refine AllReadyH.cons (by simp only [List.getElem?_toArray, List.getElem?_cons_succ, List.getElem?_cons_zero]; first | done | rfl) (fun K hK => ?_) ?_
      · skip
        refine step_value rfl (run_alloc_op rfl (run_alloc_ent _)) ?_
        try dsimp only
        obtain ⟨g5, hg5⟩ : ∃ g5, g5 = v2.heap.size := ⟨_, rfl⟩
        try rw [show v2.drew.heap.size = v2.heap.size from rfl]
        rw [← hg5]
        refine k_world (fun W' => EA g5 [] 0 0 W' ∧ RpI w W' g (ust b 0) ∧ g < g5 ∧ Own W' (g + 1) (.slice b2 (lmpOut 32 b 0).length c2) (lmpOut 32 b 0)) ⟨(by rw [hg5]; first | exact EA.new [] 0 0 _ | exact (EA.new [] 0 0 _).drew), (by repeat (first | exact HI.out | apply RpI.drew | apply RpI.drewN | apply RpI.alloc)), (by rw [hg5]; exact RpI.glt (by repeat (first | exact HI.out | apply RpI.drew | apply RpI.drewN | apply RpI.alloc))), (by repeat (first | exact HO.out | apply own_drew | apply own_drewN' | apply Own.alloc))⟩ ?_
        rintro v2 ⟨hu, hi, hgg, ho⟩
        have HE := Lib.hid hu
        have HGG := Lib.hid hgg
        clear HI
        have HI := Lib.hid hi
        clear HO
        have HO := Lib.hid ho
        clear ho
        clear hu hi hgg hg5
        refine hK.out _ _ ?_ (fun hHeld => ?_)
        · (try dsimp only); (first | done | trivial)
        clear hK K
        try simp only [Act.put, List.setIfInBounds_toArray, List.set_cons_zero, List.set_cons_succ]
        refine wpAnyH_ready (rs := [2, 4]) (by kernel_rfl) (by simp) ?_
        refine AllReadyH.cons (by simp only [List.getElem?_toArray, List.getElem?_cons_succ, List.getElem?_cons_zero]; first | done | rfl) (fun K hK => ?_) ?_
        · skip
          refine step_conv_bs rfl (.tmp 27) rfl rfl (Own.rd (by repeat (first | exact HO.out | apply own_drew | apply own_drewN' | apply Own.alloc))) ?_
          refine hK.out _ _ ?_ (fun hHeld => ?_)
          · (try dsimp only); (first | done | trivial)
          clear hK K
          try simp only [Act.put, List.setIfInBounds_toArray, List.set_cons_zero, List.set_cons_succ]
          refine wpAnyH_ready (rs := [4]) (by kernel_rfl) (by simp) ?_
          refine AllReadyH.cons (by simp only [List.getElem?_toArray, List.getElem?_cons_succ, List.getElem?_cons_zero]; first | done | rfl) (fun K hK => ?_) ?_
          · skip
            refine step_call rfl (num_u g b 0 _ (RpI.rdr (by repeat (first | exact HI.out | apply RpI.drew | apply RpI.drewN | apply RpI.alloc))) hl) (by go_simp; all_goals first | rfl | (simp only [IntKind.wrap_u64]; rfl)) ?_
            rintro e v2 ⟨rfl, hr, hg⟩
            refine ⟨_, rfl, ?_⟩
            have HI' := Lib.hid (RpI.read (z' := ust b 1) (by repeat (first | exact HI.out | apply RpI.drew | apply RpI.drewN | apply RpI.alloc)) hr hg)
            have HE' := Lib.hid (EA.grown (by repeat (first | exact HE.out | apply EA.drew | apply EA.drewN | apply EA.alloc)) hg (fun e => by have := HGG.out; simp at e; omega))
            clear hr hg
            clear HI HE
            have HI := HI'
            have HE := HE'
            clear HI' HE'
            refine hK.out _ _ ?_ (fun hHeld => ?_)
            · (try dsimp only); (first | done | trivial)
            clear hK K
            try simp only [Act.put, List.setIfInBounds_toArray, List.set_cons_zero, List.set_cons_succ]
            refine wpAnyH_ready (rs := [5]) (by kernel_rfl) (by simp) ?_
            refine AllReadyH.cons (by simp only [List.getElem?_toArray, List.getElem?_cons_succ, List.getElem?_cons_zero]; first | done | rfl) (fun K hK => ?_) ?_
            · skip
              refine step_call rfl (nearP_any (ust b 0).num _ (RS.num_bd _).1 (RS.num_bd _).2) (by go_simp; all_goals first | rfl | (simp only [IntKind.wrap_u64]; rfl)) ?_
              rintro e _ ⟨rfl, rfl⟩
              refine ⟨_, rfl, ?_⟩
              refine hK.out _ _ ?_ (fun hHeld => ?_)
              · (try dsimp only); (first | done | trivial)
              clear hK K
              try simp only [Act.put, List.setIfInBounds_toArray, List.set_cons_zero, List.set_cons_succ]
              refine wpAnyH_ready (rs := [7]) (by kernel_rfl) (by simp) ?_
              refine AllReadyH.cons (by simp only [List.getElem?_toArray, List.getElem?_cons_succ, List.getElem?_cons_zero]; first | done | rfl) (fun K hK => ?_) ?_
              · skip
                refine step_call rfl (num_u g b 1 _ (RpI.rdr (by repeat (first | exact HI.out | apply RpI.drew | apply RpI.drewN | apply RpI.alloc))) hl) (by go_simp; all_goals first | rfl | (simp only [IntKind.wrap_u64]; rfl)) ?_
                rintro e v2 ⟨rfl, hr, hg⟩
                refine ⟨_, rfl, ?_⟩
                have HI' := Lib.hid (RpI.read (z' := ust b 2) (by repeat (first | exact HI.out | apply RpI.drew | apply RpI.drewN | apply RpI.alloc)) hr hg)
                have HE' := Lib.hid (EA.grown (by repeat (first | exact HE.out | apply EA.drew | apply EA.drewN | apply EA.alloc)) hg (fun e => by have := HGG.out; simp at e; omega))
                clear hr hg
                clear HI HE
                have HI := HI'
                have HE := HE'
                clear HI' HE'
                refine hK.out _ _ ?_ (fun hHeld => ?_)
                · (try dsimp only); (first | done | trivial)
                clear hK K
                try simp only [Act.put, List.setIfInBounds_toArray, List.set_cons_zero, List.set_cons_succ]
                refine wpAnyH_take (i := 8) (v := ?_) (by simp only [List.getElem?_toArray, List.getElem?_cons_succ, List.getElem?_cons_zero]; first | done | rfl) (by kernel_rfl) (by kernel_rfl) (by kernel_rfl) (fun _ _ _ h => h) (Or.inl ⟨by rfl, ?hy⟩) (by assumption) ?_
                case hy => (intro w hSw; (try dsimp only at hSw); go_simp; all_goals with_reducible rfl)
                try simp only [Act.put, List.setIfInBounds_toArray, List.set_cons_zero, List.set_cons_succ]
                refine wpAnyH_ready (rs := [10]) (by kernel_rfl) (by simp) ?_
                refine AllReadyH.cons (by simp only [List.getElem?_toArray, List.getElem?_cons_succ, List.getElem?_cons_zero]; first | done | rfl) (fun K hK => ?_) ?_
                · skip
                  refine step_store_ent rfl (.tmp 5) (.tmp 34) rfl g5 (lmpOut 32 b 0) (nearF (ust b 0).num) (ust b 1).num rfl rfl [] 0 0 (by repeat (first | exact HE.out | apply EA.drew | apply EA.drewN | apply EA.alloc)) ?_
                  intro v2 hv2
                  have HG := Lib.hid (show RpI w v2 g (ust b 2) ∧ EA g5 (lmpOut 32 b 0) (nearF (ust b 0).num) (ust b 1).num v2 from ⟨by rw [hv2]; exact RpI.setRow (by repeat (first | exact HI.out | apply RpI.drew | apply RpI.drewN | apply RpI.alloc)) HGG.out _, by rw [hv2]; exact ⟨setRow_heap _ _ _ _ _ _ (EA.row (by repeat (first | exact HE.out | apply EA.drew | apply EA.drewN | apply EA.alloc)))⟩⟩)
                  clear hv2
                  refine hK.out _ _ ?_ (fun hHeld => ?_)
                  · (try dsimp only); (first | done | trivial)
                  clear hK K
                  try simp only [Act.put, List.setIfInBounds_toArray, List.set_cons_zero, List.set_cons_succ]
                  refine wpAnyH_done (by kernel_rfl) ?_ _
                  refine NoPanic.normal ?_
                  go_wp2_with fail
                  go_meet
                  exact ⟨g5, rfl, HG.out.1, HG.out.2, HGG.out⟩
                exact AllReadyH.nil
              exact AllReadyH.nil
            exact AllReadyH.nil
          exact AllReadyH.nil
        refine AllReadyH.cons (by simp only [List.getElem?_toArray, List.getElem?_cons_succ, List.getElem?_cons_zero]; first | done | rfl) (fun K hK => ?_) ?_
        · skip
          refine step_call rfl (num_u g b 0 _ (RpI.rdr (by repeat (first | exact HI.out | apply RpI.drew | apply RpI.drewN | apply RpI.alloc))) hl) (by go_simp; all_goals first | rfl | (simp only [IntKind.wrap_u64]; rfl)) ?_
          rintro e v2 ⟨rfl, hr, hg⟩
          refine ⟨_, rfl, ?_⟩
          have HI' := Lib.hid (RpI.read (z' := ust b 1) (by repeat (first | exact HI.out | apply RpI.drew | apply RpI.drewN | apply RpI.alloc)) hr hg)
          have HO' := Lib.hid (Own.grownG (by repeat (first | exact HO.out | apply own_drew | apply own_drewN' | apply Own.alloc)) hg)
          have HE' := Lib.hid (EA.grown (by repeat (first | exact HE.out | apply EA.drew | apply EA.drewN | apply EA.alloc)) hg (fun e => by have := HGG.out; simp at e; omega))
          clear hr hg
          clear HI HO HE
          have HI := HI'
          have HO := HO'
          have HE := HE'
          clear HI' HO' HE'
          refine hK.out _ _ ?_ (fun hHeld => ?_)
          · (try dsimp only); (first | done | trivial)
          clear hK K
          try simp only [Act.put, List.setIfInBounds_toArray, List.set_cons_zero, List.set_cons_succ]
          refine wpAnyH_ready (rs := [2, 5]) (by kernel_rfl) (by simp) ?_
          refine AllReadyH.cons (by simp only [List.getElem?_toArray, List.getElem?_cons_succ, List.getElem?_cons_zero]; first | done | rfl) (fun K hK => ?_) ?_
          · skip
            refine step_conv_bs rfl (.tmp 27) rfl rfl (Own.rd (by repeat (first | exact HO.out | apply own_drew | apply own_drewN' | apply Own.alloc))) ?_
            refine hK.out _ _ ?_ (fun hHeld => ?_)
            · (try dsimp only); (first | done | trivial)
            clear hK K
            try simp only [Act.put, List.setIfInBounds_toArray, List.set_cons_zero, List.set_cons_succ]
            refine wpAnyH_ready (rs := [5]) (by kernel_rfl) (by simp) ?_
            refine AllReadyH.cons (by simp only [List.getElem?_toArray, List.getElem?_cons_succ, List.getElem?_cons_zero]; first | done | rfl) (fun K hK => ?_) ?_
            · skip
              refine step_call rfl (nearP_any (ust b 0).num _ (RS.num_bd _).1 (RS.num_bd _).2) (by go_simp; all_goals first | rfl | (simp only [IntKind.wrap_u64]; rfl)) ?_
              rintro e _ ⟨rfl, rfl⟩
              refine ⟨_, rfl, ?_⟩
              refine hK.out _ _ ?_ (fun hHeld => ?_)
              · (try dsimp only); (first | done | trivial)
              clear hK K
              try simp only [Act.put, List.setIfInBounds_toArray, List.set_cons_zero, List.set_cons_succ]
              refine wpAnyH_ready (rs := [7]) (by kernel_rfl) (by simp) ?_
              refine AllReadyH.cons (by simp only [List.getElem?_toArray, List.getElem?_cons_succ, List.getElem?_cons_zero]; first | done | rfl) (fun K hK => ?_) ?_
              · skip
                refine step_call rfl (num_u g b 1 _ (RpI.rdr (by repeat (first | exact HI.out | apply RpI.drew | apply RpI.drewN | apply RpI.alloc))) hl) (by go_simp; all_goals first | rfl | (simp only [IntKind.wrap_u64]; rfl)) ?_
                rintro e v2 ⟨rfl, hr, hg⟩
                refine ⟨_, rfl, ?_⟩
                have HI' := Lib.hid (RpI.read (z' := ust b 2) (by repeat (first | exact HI.out | apply RpI.drew | apply RpI.drewN | apply RpI.alloc)) hr hg)
                have HE' := Lib.hid (EA.grown (by repeat (first | exact HE.out | apply EA.drew | apply EA.drewN | apply EA.alloc)) hg (fun e => by have := HGG.out; simp at e; omega))
                clear hr hg
                clear HI HE
                have HI := HI'
                have HE := HE'
                clear HI' HE'
                refine hK.out _ _ ?_ (fun hHeld => ?_)
                · (try dsimp only); (first | done | trivial)
                clear hK K
                try simp only [Act.put, List.setIfInBounds_toArray, List.set_cons_zero, List.set_cons_succ]
                refine wpAnyH_take (i := 8) (v := ?_) (by simp only [List.getElem?_toArray, List.getElem?_cons_succ, List.getElem?_cons_zero]; first | done | rfl) (by kernel_rfl) (by kernel_rfl) (by kernel_rfl) (fun _ _ _ h => h) (Or.inl ⟨by rfl, ?hy⟩) (by assumption) ?_
                case hy => (intro w hSw; (try dsimp only at hSw); go_simp; all_goals with_reducible rfl)
                try simp only [Act.put, List.setIfInBounds_toArray, List.set_cons_zero, List.set_cons_succ]
                refine wpAnyH_ready (rs := [10]) (by kernel_rfl) (by simp) ?_
                refine AllReadyH.cons (by simp only [List.getElem?_toArray, List.getElem?_cons_succ, List.getElem?_cons_zero]; first | done | rfl) (fun K hK => ?_) ?_
                · skip
                  refine step_store_ent rfl (.tmp 5) (.tmp 34) rfl g5 (lmpOut 32 b 0) (nearF (ust b 0).num) (ust b 1).num rfl rfl [] 0 0 (by repeat (first | exact HE.out | apply EA.drew | apply EA.drewN | apply EA.alloc)) ?_
                  intro v2 hv2
                  have HG := Lib.hid (show RpI w v2 g (ust b 2) ∧ EA g5 (lmpOut 32 b 0) (nearF (ust b 0).num) (ust b 1).num v2 from ⟨by rw [hv2]; exact RpI.setRow (by repeat (first | exact HI.out | apply RpI.drew | apply RpI.drewN | apply RpI.alloc)) HGG.out _, by rw [hv2]; exact ⟨setRow_heap _ _ _ _ _ _ (EA.row (by repeat (first | exact HE.out | apply EA.drew | apply EA.drewN | apply EA.alloc)))⟩⟩)
                  clear hv2
                  refine hK.out _ _ ?_ (fun hHeld => ?_)
                  · (try dsimp only); (first | done | trivial)
                  clear hK K
                  try simp only [Act.put, List.setIfInBounds_toArray, List.set_cons_zero, List.set_cons_succ]
                  refine wpAnyH_done (by kernel_rfl) ?_ _
                  refine NoPanic.normal ?_
                  go_wp2_with fail
                  go_meet
                  exact ⟨g5, rfl, HG.out.1, HG.out.2, HGG.out⟩
                exact AllReadyH.nil
              exact AllReadyH.nil
            exact AllReadyH.nil
          refine AllReadyH.cons (by simp only [List.getElem?_toArray, List.getElem?_cons_succ, List.getElem?_cons_zero]; first | done | rfl) (fun K hK => ?_) ?_
          · skip
            refine step_call rfl (nearP_any (ust b 0).num _ (RS.num_bd _).1 (RS.num_bd _).2) (by go_simp; all_goals first | rfl | (simp only [IntKind.wrap_u64]; rfl)) ?_
            rintro e _ ⟨rfl, rfl⟩
            refine ⟨_, rfl, ?_⟩
            refine hK.out _ _ ?_ (fun hHeld => ?_)
            · (try dsimp only); (first | done | trivial)
            clear hK K
            try simp only [Act.put, List.setIfInBounds_toArray, List.set_cons_zero, List.set_cons_succ]
            refine wpAnyH_ready (rs := [2, 7]) (by kernel_rfl) (by simp) ?_
            refine AllReadyH.cons (by simp only [List.getElem?_toArray, List.getElem?_cons_succ, List.getElem?_cons_zero]; first | done | rfl) (fun K hK => ?_) ?_
            · skip
              refine step_conv_bs rfl (.tmp 27) rfl rfl (Own.rd (by repeat (first | exact HO.out | apply own_drew | apply own_drewN' | apply Own.alloc))) ?_
              refine hK.out _ _ ?_ (fun hHeld => ?_)
              · (try dsimp only); (first | done | trivial)
              clear hK K
              try simp only [Act.put, List.setIfInBounds_toArray, List.set_cons_zero, List.set_cons_succ]
              refine wpAnyH_ready (rs := [7]) (by kernel_rfl) (by simp) ?_
              refine AllReadyH.cons (by simp only [List.getElem?_toArray, List.getElem?_cons_succ, List.getElem?_cons_zero]; first | done | rfl) (fun K hK => ?_) ?_
              · skip
                refine step_call rfl (num_u g b 1 _ (RpI.rdr (by repeat (first | exact HI.out | apply RpI.drew | apply RpI.drewN | apply RpI.alloc))) hl) (by go_simp; all_goals first | rfl | (simp only [IntKind.wrap_u64]; rfl)) ?_
                rintro e v2 ⟨rfl, hr, hg⟩
                refine ⟨_, rfl, ?_⟩
                have HI' := Lib.hid (RpI.read (z' := ust b 2) (by repeat (first | exact HI.out | apply RpI.drew | apply RpI.drewN | apply RpI.alloc)) hr hg)
                have HE' := Lib.hid (EA.grown (by repeat (first | exact HE.out | apply EA.drew | apply EA.drewN | apply EA.alloc)) hg (fun e => by have := HGG.out; simp at e; omega))
                clear hr hg
                clear HI HE
                have HI := HI'
                have HE := HE'
                clear HI' HE'
                refine hK.out _ _ ?_ (fun hHeld => ?_)
                · (try dsimp only); (first | done | trivial)
                clear hK K
                try simp only [Act.put, List.setIfInBounds_toArray, List.set_cons_zero, List.set_cons_succ]
                refine wpAnyH_take (i := 8) (v := ?_) (by simp only [List.getElem?_toArray, List.getElem?_cons_succ, List.getElem?_cons_zero]; first | done | rfl) (by kernel_rfl) (by kernel_rfl) (by kernel_rfl) (fun _ _ _ h => h) (Or.inl ⟨by rfl, ?hy⟩) (by assumption) ?_
                case hy => (intro w hSw; (try dsimp only at hSw); go_simp; all_goals with_reducible rfl)
                try simp only [Act.put, List.setIfInBounds_toArray, List.set_cons_zero, List.set_cons_succ]
                refine wpAnyH_ready (rs := [10]) (by kernel_rfl) (by simp) ?_
                refine AllReadyH.cons (by simp only [List.getElem?_toArray, List.getElem?_cons_succ, List.getElem?_cons_zero]; first | done | rfl) (fun K hK => ?_) ?_
                · skip
                  refine step_store_ent rfl (.tmp 5) (.tmp 34) rfl g5 (lmpOut 32 b 0) (nearF (ust b 0).num) (ust b 1).num rfl rfl [] 0 0 (by repeat (first | exact HE.out | apply EA.drew | apply EA.drewN | apply EA.alloc)) ?_
                  intro v2 hv2
                  have HG := Lib.hid (show RpI w v2 g (ust b 2) ∧ EA g5 (lmpOut 32 b 0) (nearF (ust b 0).num) (ust b 1).num v2 from ⟨by rw [hv2]; exact RpI.setRow (by repeat (first | exact HI.out | apply RpI.drew | apply RpI.drewN | apply RpI.alloc)) HGG.out _, by rw [hv2]; exact ⟨setRow_heap _ _ _ _ _ _ (EA.row (by repeat (first | exact HE.out | apply EA.drew | apply EA.drewN | apply EA.alloc)))⟩⟩)
                  clear hv2
                  refine hK.out _ _ ?_ (fun hHeld => ?_)
                  · (try dsimp only); (first | done | trivial)
                  clear hK K
                  try simp only [Act.put, List.setIfInBounds_toArray, List.set_cons_zero, List.set_cons_succ]
                  refine wpAnyH_done (by kernel_rfl) ?_ _
                  refine NoPanic.normal ?_
                  go_wp2_with fail
                  go_meet
                  exact ⟨g5, rfl, HG.out.1, HG.out.2, HGG.out⟩
                exact AllReadyH.nil
              exact AllReadyH.nil
            refine AllReadyH.cons (by simp only [List.getElem?_toArray, List.getElem?_cons_succ, List.getElem?_cons_zero]; first | done | rfl) (fun K hK => ?_) ?_
            · skip
              refine step_call rfl (num_u g b 1 _ (RpI.rdr (by repeat (first | exact HI.out | apply RpI.drew | apply RpI.drewN | apply RpI.alloc))) hl) (by go_simp; all_goals first | rfl | (simp only [IntKind.wrap_u64]; rfl)) ?_
              rintro e v2 ⟨rfl, hr, hg⟩
              refine ⟨_, rfl, ?_⟩
              have HI' := Lib.hid (RpI.read (z' := ust b 2) (by repeat (first | exact HI.out | apply RpI.drew | apply RpI.drewN | apply RpI.alloc)) hr hg)
              have HO' := Lib.hid (Own.grownG (by repeat (first | exact HO.out | apply own_drew | apply own_drewN' | apply Own.alloc)) hg)
              have HE' := Lib.hid (EA.grown (by repeat (first | exact HE.out | apply EA.drew | apply EA.drewN | apply EA.alloc)) hg (fun e => by have := HGG.out; simp at e; omega))
              clear hr hg
              clear HI HO HE
              have HI := HI'
              have HO := HO'
              have HE := HE'
              clear HI' HO' HE'
              refine hK.out _ _ ?_ (fun hHeld => ?_)
              · (try dsimp only); (first | done | trivial)
              clear hK K
              try simp only [Act.put, List.setIfInBounds_toArray, List.set_cons_zero, List.set_cons_succ]
              refine wpAnyH_ready (rs := [2]) (by kernel_rfl) (by simp) ?_
              refine AllReadyH.cons (by simp only [List.getElem?_toArray, List.getElem?_cons_succ, List.getElem?_cons_zero]; first | done | rfl) (fun K hK => ?_) ?_
              · skip
                refine step_conv_bs rfl (.tmp 27) rfl rfl (Own.rd (by repeat (first | exact HO.out | apply own_drew | apply own_drewN' | apply Own.alloc))) ?_
                refine hK.out _ _ ?_ (fun hHeld => ?_)
                · (try dsimp only); (first | done | trivial)
                clear hK K
                try simp only [Act.put, List.setIfInBounds_toArray, List.set_cons_zero, List.set_cons_succ]
                refine wpAnyH_take (i := 8) (v := ?_) (by simp only [List.getElem?_toArray, List.getElem?_cons_succ, List.getElem?_cons_zero]; first | done | rfl) (by kernel_rfl) (by kernel_rfl) (by kernel_rfl) (fun _ _ _ h => h) (Or.inl ⟨by rfl, ?hy⟩) (by assumption) ?_
                case hy => (intro w hSw; (try dsimp only at hSw); go_simp; all_goals with_reducible rfl)
                try simp only [Act.put, List.setIfInBounds_toArray, List.set_cons_zero, List.set_cons_succ]
                refine wpAnyH_ready (rs := [10]) (by kernel_rfl) (by simp) ?_
                refine AllReadyH.cons (by simp only [List.getElem?_toArray, List.getElem?_cons_succ, List.getElem?_cons_zero]; first | done | rfl) (fun K hK => ?_) ?_
                · skip
                  refine step_store_ent rfl (.tmp 5) (.tmp 34) rfl g5 (lmpOut 32 b 0) (nearF (ust b 0).num) (ust b 1).num rfl rfl [] 0 0 (by repeat (first | exact HE.out | apply EA.drew | apply EA.drewN | apply EA.alloc)) ?_
                  intro v2 hv2
                  have HG := Lib.hid (show RpI w v2 g (ust b 2) ∧ EA g5 (lmpOut 32 b 0) (nearF (ust b 0).num) (ust b 1).num v2 from ⟨by rw [hv2]; exact RpI.setRow (by repeat (first | exact HI.out | apply RpI.drew | apply RpI.drewN | apply RpI.alloc)) HGG.out _, by rw [hv2]; exact ⟨setRow_heap _ _ _ _ _ _ (EA.row (by repeat (first | exact HE.out | apply EA.drew | apply EA.drewN | apply EA.alloc)))⟩⟩)
                  clear hv2
                  refine hK.out _ _ ?_ (fun hHeld => ?_)
                  · (try dsimp only); (first | done | trivial)
                  clear hK K
                  try simp only [Act.put, List.setIfInBounds_toArray, List.set_cons_zero, List.set_cons_succ]
                  refine wpAnyH_done (by kernel_rfl) ?_ _
                  refine NoPanic.normal ?_
                  go_wp2_with fail
                  go_meet
                  exact ⟨g5, rfl, HG.out.1, HG.out.2, HGG.out⟩
                exact AllReadyH.nil
              exact AllReadyH.nil
            exact AllReadyH.nil
          exact AllReadyH.nil
        exact AllReadyH.nil
      exact AllReadyH.nil
    refine AllReadyH.cons (by simp only [List.getElem?_toArray, List.getElem?_cons_succ, List.getElem?_cons_zero]; first | done | rfl) (fun K hK => ?_) ?_
    · skip
      refine step_value rfl (run_alloc_op rfl (run_alloc_ent _)) ?_
      try dsimp only
      obtain ⟨g5, hg5⟩ : ∃ g5, g5 = W.heap.size := ⟨_, rfl⟩
      try rw [show W.drew.heap.size = W.heap.size from rfl]
      rw [← hg5]
      refine k_world (fun W' => EA g5 [] 0 0 W' ∧ RpI w W' g (⟨b, 0⟩) ∧ g < g5) ⟨(by rw [hg5]; first | exact EA.new [] 0 0 _ | exact (EA.new [] 0 0 _).drew), (by repeat (first | exact HI.out | apply RpI.drew | apply RpI.drewN | apply RpI.alloc)), (by rw [hg5]; exact RpI.glt (by repeat (first | exact HI.out | apply RpI.drew | apply RpI.drewN | apply RpI.alloc)))⟩ ?_
      rintro v2 ⟨hu, hi, hgg⟩
      have HE := Lib.hid hu
      have HGG := Lib.hid hgg
      clear HI
      have HI := Lib.hid hi
      clear hu hi hgg hg5
      refine hK.out _ _ ?_ (fun hHeld => ?_)
      · (try dsimp only); (first | done | trivial)
      clear hK K
      try simp only [Act.put, List.setIfInBounds_toArray, List.set_cons_zero, List.set_cons_succ]
      refine wpAnyH_ready (rs := [1]) (by kernel_rfl) (by simp) ?_
      refine AllReadyH.cons (by simp only [List.getElem?_toArray, List.getElem?_cons_succ, List.getElem?_cons_zero]; first | done | rfl) (fun K hK => ?_) ?_
      · skip
        refine step_call rfl (lump_u g b _ (RpI.rdr (by repeat (first | exact HI.out | apply RpI.drew | apply RpI.drewN | apply RpI.alloc))) hl) (by go_simp; all_goals first | rfl | (simp only [IntKind.wrap_u64]; rfl)) ?_
        rintro e v2 ⟨u2, rfl, ho, hr, hg⟩
        refine ⟨_, rfl, ?_⟩
        obtain ⟨b2, c2, rfl⟩ := ho.rd.shape
        have HI' := Lib.hid (RpI.read (z' := ust b 0) (by repeat (first | exact HI.out | apply RpI.drew | apply RpI.drewN | apply RpI.alloc)) hr hg)
        have HO := Lib.hid (ho.mono (B' := g + 1) (RpI.glt (by repeat (first | exact HI.out | apply RpI.drew | apply RpI.drewN | apply RpI.alloc))))
        clear ho
        have HE' := Lib.hid (EA.grown (by repeat (first | exact HE.out | apply EA.drew | apply EA.drewN | apply EA.alloc)) hg (fun e => by have := HGG.out; simp at e; omega))
        clear hr hg
        clear HI HE
        have HI := HI'
        have HE := HE'
        clear HI' HE'
        refine hK.out _ _ ?_ (fun hHeld => ?_)
        · (try dsimp only); (first | done | trivial)
        clear hK K
        try simp only [Act.put, List.setIfInBounds_toArray, List.set_cons_zero, List.set_cons_succ]
        refine wpAnyH_ready (rs := [2, 4]) (by kernel_rfl) (by simp) ?_
        refine AllReadyH.cons (by simp only [List.getElem?_toArray, List.getElem?_cons_succ, List.getElem?_cons_zero]; first | done | rfl) (fun K hK => ?_) ?_
        · skip
          refine step_conv_bs rfl (.tmp 27) rfl rfl (Own.rd (by repeat (first | exact HO.out | apply own_drew | apply own_drewN' | apply Own.alloc))) ?_
          refine hK.out _ _ ?_ (fun hHeld => ?_)
          · (try dsimp only); (first | done | trivial)
          clear hK K
          try simp only [Act.put, List.setIfInBounds_toArray, List.set_cons_zero, List.set_cons_succ]
          refine wpAnyH_ready (rs := [4]) (by kernel_rfl) (by simp) ?_
          refine AllReadyH.cons (by simp only [List.getElem?_toArray, List.getElem?_cons_succ, List.getElem?_cons_zero]; first | done | rfl) (fun K hK => ?_) ?_
          · skip
            refine step_call rfl (num_u g b 0 _ (RpI.rdr (by repeat (first | exact HI.out | apply RpI.drew | apply RpI.drewN | apply RpI.alloc))) hl) (by go_simp; all_goals first | rfl | (simp only [IntKind.wrap_u64]; rfl)) ?_
            rintro e v2 ⟨rfl, hr, hg⟩
            refine ⟨_, rfl, ?_⟩
            have HI' := Lib.hid (RpI.read (z' := ust b 1) (by repeat (first | exact HI.out | apply RpI.drew | apply RpI.drewN | apply RpI.alloc)) hr hg)
            have HE' := Lib.hid (EA.grown (by repeat (first | exact HE.out | apply EA.drew | apply EA.drewN | apply EA.alloc)) hg (fun e => by have := HGG.out; simp at e; omega))
            clear hr hg
            clear HI HE
            have HI := HI'
            have HE := HE'
            clear HI' HE'
            refine hK.out _ _ ?_ (fun hHeld => ?_)
            · (try dsimp only); (first | done | trivial)
            clear hK K
            try simp only [Act.put, List.setIfInBounds_toArray, List.set_cons_zero, List.set_cons_succ]
            refine wpAnyH_ready (rs := [5]) (by kernel_rfl) (by simp) ?_
            refine AllReadyH.cons (by simp only [List.getElem?_toArray, List.getElem?_cons_succ, List.getElem?_cons_zero]; first | done | rfl) (fun K hK => ?_) ?_
            · skip
              refine step_call rfl (nearP_any (ust b 0).num _ (RS.num_bd _).1 (RS.num_bd _).2) (by go_simp; all_goals first | rfl | (simp only [IntKind.wrap_u64]; rfl)) ?_
              rintro e _ ⟨rfl, rfl⟩
              refine ⟨_, rfl, ?_⟩
              refine hK.out _ _ ?_ (fun hHeld => ?_)
              · (try dsimp only); (first | done | trivial)
              clear hK K
              try simp only [Act.put, List.setIfInBounds_toArray, List.set_cons_zero, List.set_cons_succ]
              refine wpAnyH_ready (rs := [7]) (by kernel_rfl) (by simp) ?_
              refine AllReadyH.cons (by simp only [List.getElem?_toArray, List.getElem?_cons_succ, List.getElem?_cons_zero]; first | done | rfl) (fun K hK => ?_) ?_
              · skip
                refine step_call rfl (num_u g b 1 _ (RpI.rdr (by repeat (first | exact HI.out | apply RpI.drew | apply RpI.drewN | apply RpI.alloc))) hl) (by go_simp; all_goals first | rfl | (simp only [IntKind.wrap_u64]; rfl)) ?_
                rintro e v2 ⟨rfl, hr, hg⟩
                refine ⟨_, rfl, ?_⟩
                have HI' := Lib.hid (RpI.read (z' := ust b 2) (by repeat (first | exact HI.out | apply RpI.drew | apply RpI.drewN | apply RpI.alloc)) hr hg)
                have HE' := Lib.hid (EA.grown (by repeat (first | exact HE.out | apply EA.drew | apply EA.drewN | apply EA.alloc)) hg (fun e => by have := HGG.out; simp at e; omega))
                clear hr hg
                clear HI HE
                have HI := HI'
                have HE := HE'
                clear HI' HE'
                refine hK.out _ _ ?_ (fun hHeld => ?_)
                · (try dsimp only); (first | done | trivial)
                clear hK K
                try simp only [Act.put, List.setIfInBounds_toArray, List.set_cons_zero, List.set_cons_succ]
                refine wpAnyH_take (i := 8) (v := ?_) (by simp only [List.getElem?_toArray, List.getElem?_cons_succ, List.getElem?_cons_zero]; first | done | rfl) (by kernel_rfl) (by kernel_rfl) (by kernel_rfl) (fun _ _ _ h => h) (Or.inl ⟨by rfl, ?hy⟩) (by assumption) ?_
                case hy => (intro w hSw; (try dsimp only at hSw); go_simp; all_goals with_reducible rfl)
                try simp only [Act.put, List.setIfInBounds_toArray, List.set_cons_zero, List.set_cons_succ]
                refine wpAnyH_ready (rs := [10]) (by kernel_rfl) (by simp) ?_
                refine AllReadyH.cons (by simp only [List.getElem?_toArray, List.getElem?_cons_succ, List.getElem?_cons_zero]; first | done | rfl) (fun K hK => ?_) ?_
                · skip
                  refine step_store_ent rfl (.tmp 5) (.tmp 34) rfl g5 (lmpOut 32 b 0) (nearF (ust b 0).num) (ust b 1).num rfl rfl [] 0 0 (by repeat (first | exact HE.out | apply EA.drew | apply EA.drewN | apply EA.alloc)) ?_
                  intro v2 hv2
                  have HG := Lib.hid (show RpI w v2 g (ust b 2) ∧ EA g5 (lmpOut 32 b 0) (nearF (ust b 0).num) (ust b 1).num v2 from ⟨by rw [hv2]; exact RpI.setRow (by repeat (first | exact HI.out | apply RpI.drew | apply RpI.drewN | apply RpI.alloc)) HGG.out _, by rw [hv2]; exact ⟨setRow_heap _ _ _ _ _ _ (EA.row (by repeat (first | exact HE.out | apply EA.drew | apply EA.drewN | apply EA.alloc)))⟩⟩)
                  clear hv2
                  refine hK.out _ _ ?_ (fun hHeld => ?_)
                  · (try dsimp only); (first | done | trivial)
                  clear hK K
                  try simp only [Act.put, List.setIfInBounds_toArray, List.set_cons_zero, List.set_cons_succ]
                  refine wpAnyH_done (by kernel_rfl) ?_ _
                  refine NoPanic.normal ?_
                  go_wp2_with fail
                  go_meet
                  exact ⟨g5, rfl, HG.out.1, HG.out.2, HGG.out⟩
                exact AllReadyH.nil
              exact AllReadyH.nil
            exact AllReadyH.nil
          exact AllReadyH.nil
        refine AllReadyH.cons (by simp only [List.getElem?_toArray, List.getElem?_cons_succ, List.getElem?_cons_zero]; first | done | rfl) (fun K hK => ?_) ?_
        · skip
          refine step_call rfl (num_u g b 0 _ (RpI.rdr (by repeat (first | exact HI.out | apply RpI.drew | apply RpI.drewN | apply RpI.alloc))) hl) (by go_simp; all_goals first | rfl | (simp only [IntKind.wrap_u64]; rfl)) ?_
          rintro e v2 ⟨rfl, hr, hg⟩
          refine ⟨_, rfl, ?_⟩
          have HI' := Lib.hid (RpI.read (z' := ust b 1) (by repeat (first | exact HI.out | apply RpI.drew | apply RpI.drewN | apply RpI.alloc)) hr hg)
          have HO' := Lib.hid (Own.grownG (by repeat (first | exact HO.out | apply own_drew | apply own_drewN' | apply Own.alloc)) hg)
          have HE' := Lib.hid (EA.grown (by repeat (first | exact HE.out | apply EA.drew | apply EA.drewN | apply EA.alloc)) hg (fun e => by have := HGG.out; simp at e; omega))
          clear hr hg
          clear HI HO HE
          have HI := HI'
          have HO := HO'
          have HE := HE'
          clear HI' HO' HE'
          refine hK.out _ _ ?_ (fun hHeld => ?_)
          · (try dsimp only); (first | done | trivial)
          clear hK K
          try simp only [Act.put, List.setIfInBounds_toArray, List.set_cons_zero, List.set_cons_succ]
          refine wpAnyH_ready (rs := [2, 5]) (by kernel_rfl) (by simp) ?_
          refine AllReadyH.cons (by simp only [List.getElem?_toArray, List.getElem?_cons_succ, List.getElem?_cons_zero]; first | done | rfl) (fun K hK => ?_) ?_
          · skip
            refine step_conv_bs rfl (.tmp 27) rfl rfl (Own.rd (by repeat (first | exact HO.out | apply own_drew | apply own_drewN' | apply Own.alloc))) ?_
            refine hK.out _ _ ?_ (fun hHeld => ?_)
            · (try dsimp only); (first | done | trivial)
            clear hK K
            try simp only [Act.put, List.setIfInBounds_toArray, List.set_cons_zero, List.set_cons_succ]
            refine wpAnyH_ready (rs := [5]) (by kernel_rfl) (by simp) ?_
            refine AllReadyH.cons (by simp only [List.getElem?_toArray, List.getElem?_cons_succ, List.getElem?_cons_zero]; first | done | rfl) (fun K hK => ?_) ?_
            · skip
              refine step_call rfl (nearP_any (ust b 0).num _ (RS.num_bd _).1 (RS.num_bd _).2) (by go_simp; all_goals first | rfl | (simp only [IntKind.wrap_u64]; rfl)) ?_
              rintro e _ ⟨rfl, rfl⟩
              refine ⟨_, rfl, ?_⟩
              refine hK.out _ _ ?_ (fun hHeld => ?_)
              · (try dsimp only); (first | done | trivial)
              clear hK K
              try simp only [Act.put, List.setIfInBounds_toArray, List.set_cons_zero, List.set_cons_succ]
              refine wpAnyH_ready (rs := [7]) (by kernel_rfl) (by simp) ?_
              refine AllReadyH.cons (by simp only [List.getElem?_toArray, List.getElem?_cons_succ, List.getElem?_cons_zero]; first | done | rfl) (fun K hK => ?_) ?_
              · skip
                refine step_call rfl (num_u g b 1 _ (RpI.rdr (by repeat (first | exact HI.out | apply RpI.drew | apply RpI.drewN | apply RpI.alloc))) hl) (by go_simp; all_goals first | rfl | (simp only [IntKind.wrap_u64]; rfl)) ?_
                rintro e v2 ⟨rfl, hr, hg⟩
                refine ⟨_, rfl, ?_⟩
                have HI' := Lib.hid (RpI.read (z' := ust b 2) (by repeat (first | exact HI.out | apply RpI.drew | apply RpI.drewN | apply RpI.alloc)) hr hg)
                have HE' := Lib.hid (EA.grown (by repeat (first | exact HE.out | apply EA.drew | apply EA.drewN | apply EA.alloc)) hg (fun e => by have := HGG.out; simp at e; omega))
                clear hr hg
                clear HI HE
                have HI := HI'
                have HE := HE'
                clear HI' HE'
                refine hK.out _ _ ?_ (fun hHeld => ?_)
                · (try dsimp only); (first | done | trivial)
                clear hK K
                try simp only [Act.put, List.setIfInBounds_toArray, List.set_cons_zero, List.set_cons_succ]
                refine wpAnyH_take (i := 8) (v := ?_) (by simp only [List.getElem?_toArray, List.getElem?_cons_succ, List.getElem?_cons_zero]; first | done | rfl) (by kernel_rfl) (by kernel_rfl) (by kernel_rfl) (fun _ _ _ h => h) (Or.inl ⟨by rfl, ?hy⟩) (by assumption) ?_
                case hy => (intro w hSw; (try dsimp only at hSw); go_simp; all_goals with_reducible rfl)
                try simp only [Act.put, List.setIfInBounds_toArray, List.set_cons_zero, List.set_cons_succ]
                refine wpAnyH_ready (rs := [10]) (by kernel_rfl) (by simp) ?_
                refine AllReadyH.cons (by simp only [List.getElem?_toArray, List.getElem?_cons_succ, List.getElem?_cons_zero]; first | done | rfl) (fun K hK => ?_) ?_
                · skip
                  refine step_store_ent rfl (.tmp 5) (.tmp 34) rfl g5 (lmpOut 32 b 0) (nearF (ust b 0).num) (ust b 1).num rfl rfl [] 0 0 (by repeat (first | exact HE.out | apply EA.drew | apply EA.drewN | apply EA.alloc)) ?_
                  intro v2 hv2
                  have HG := Lib.hid (show RpI w v2 g (ust b 2) ∧ EA g5 (lmpOut 32 b 0) (nearF (ust b 0).num) (ust b 1).num v2 from ⟨by rw [hv2]; exact RpI.setRow (by repeat (first | exact HI.out | apply RpI.drew | apply RpI.drewN | apply RpI.alloc)) HGG.out _, by rw [hv2]; exact ⟨setRow_heap _ _ _ _ _ _ (EA.row (by repeat (first | exact HE.out | apply EA.drew | apply EA.drewN | apply EA.alloc)))⟩⟩)
                  clear hv2
                  refine hK.out _ _ ?_ (fun hHeld => ?_)
                  · (try dsimp only); (first | done | trivial)
                  clear hK K
                  try simp only [Act.put, List.setIfInBounds_toArray, List.set_cons_zero, List.set_cons_succ]
                  refine wpAnyH_done (by kernel_rfl) ?_ _
                  refine NoPanic.normal ?_
                  go_wp2_with fail
                  go_meet
                  exact ⟨g5, rfl, HG.out.1, HG.out.2, HGG.out⟩
                exact AllReadyH.nil
              exact AllReadyH.nil
            exact AllReadyH.nil
          refine AllReadyH.cons (by simp only [List.getElem?_toArray, List.getElem?_cons_succ, List.getElem?_cons_zero]; first | done | rfl) (fun K hK => ?_) ?_
          · skip
            refine step_call rfl (nearP_any (ust b 0).num _ (RS.num_bd _).1 (RS.num_bd _).2) (by go_simp; all_goals first | rfl | (simp only [IntKind.wrap_u64]; rfl)) ?_
            rintro e _ ⟨rfl, rfl⟩
            refine ⟨_, rfl, ?_⟩
            refine hK.out _ _ ?_ (fun hHeld => ?_)
            · (try dsimp only); (first | done | trivial)
            clear hK K
            try simp only [Act.put, List.setIfInBounds_toArray, List.set_cons_zero, List.set_cons_succ]
            refine wpAnyH_ready (rs := [2, 7]) (by kernel_rfl) (by simp) ?_
            refine AllReadyH.cons (by simp only [List.getElem?_toArray, List.getElem?_cons_succ, List.getElem?_cons_zero]; first | done | rfl) (fun K hK => ?_) ?_
            · skip
              refine step_conv_bs rfl (.tmp 27) rfl rfl (Own.rd (by repeat (first | exact HO.out | apply own_drew | apply own_drewN' | apply Own.alloc))) ?_
              refine hK.out _ _ ?_ (fun hHeld => ?_)
              · (try dsimp only); (first | done | trivial)
              clear hK K
              try simp only [Act.put, List.setIfInBounds_toArray, List.set_cons_zero, List.set_cons_succ]
              refine wpAnyH_ready (rs := [7]) (by kernel_rfl) (by simp) ?_
              refine AllReadyH.cons (by simp only [List.getElem?_toArray, List.getElem?_cons_succ, List.getElem?_cons_zero]; first | done | rfl) (fun K hK => ?_) ?_
              · skip
                refine step_call rfl (num_u g b 1 _ (RpI.rdr (by repeat (first | exact HI.out | apply RpI.drew | apply RpI.drewN | apply RpI.alloc))) hl) (by go_simp; all_goals first | rfl | (simp only [IntKind.wrap_u64]; rfl)) ?_
                rintro e v2 ⟨rfl, hr, hg⟩
                refine ⟨_, rfl, ?_⟩
                have HI' := Lib.hid (RpI.read (z' := ust b 2) (by repeat (first | exact HI.out | apply RpI.drew | apply RpI.drewN | apply RpI.alloc)) hr hg)
                have HE' := Lib.hid (EA.grown (by repeat (first | exact HE.out | apply EA.drew | apply EA.drewN | apply EA.alloc)) hg (fun e => by have := HGG.out; simp at e; omega))
                clear hr hg
                clear HI HE
                have HI := HI'
                have HE := HE'
                clear HI' HE'
                refine hK.out _ _ ?_ (fun hHeld => ?_)
                · (try dsimp only); (first | done | trivial)
                clear hK K
                try simp only [Act.put, List.setIfInBounds_toArray, List.set_cons_zero, List.set_cons_succ]
                refine wpAnyH_take (i := 8) (v := ?_) (by simp only [List.getElem?_toArray, List.getElem?_cons_succ, List.getElem?_cons_zero]; first | done | rfl) (by kernel_rfl) (by kernel_rfl) (by kernel_rfl) (fun _ _ _ h => h) (Or.inl ⟨by rfl, ?hy⟩) (by assumption) ?_
                case hy => (intro w hSw; (try dsimp only at hSw); go_simp; all_goals with_reducible rfl)
                try simp only [Act.put, List.setIfInBounds_toArray, List.set_cons_zero, List.set_cons_succ]
                refine wpAnyH_ready (rs := [10]) (by kernel_rfl) (by simp) ?_
                refine AllReadyH.cons (by simp only [List.getElem?_toArray, List.getElem?_cons_succ, List.getElem?_cons_zero]; first | done | rfl) (fun K hK => ?_) ?_
                · skip
                  refine step_store_ent rfl (.tmp 5) (.tmp 34) rfl g5 (lmpOut 32 b 0) (nearF (ust b 0).num) (ust b 1).num rfl rfl [] 0 0 (by repeat (first | exact HE.out | apply EA.drew | apply EA.drewN | apply EA.alloc)) ?_
                  intro v2 hv2
                  have HG := Lib.hid (show RpI w v2 g (ust b 2) ∧ EA g5 (lmpOut 32 b 0) (nearF (ust b 0).num) (ust b 1).num v2 from ⟨by rw [hv2]; exact RpI.setRow (by repeat (first | exact HI.out | apply RpI.drew | apply RpI.drewN | apply RpI.alloc)) HGG.out _, by rw [hv2]; exact ⟨setRow_heap _ _ _ _ _ _ (EA.row (by repeat (first | exact HE.out | apply EA.drew | apply EA.drewN | apply EA.alloc)))⟩⟩)
                  clear hv2
                  refine hK.out _ _ ?_ (fun hHeld => ?_)
                  · (try dsimp only); (first | done | trivial)
                  clear hK K
                  try simp only [Act.put, List.setIfInBounds_toArray, List.set_cons_zero, List.set_cons_succ]
                  refine wpAnyH_done (by kernel_rfl) ?_ _
                  refine NoPanic.normal ?_
                  go_wp2_with fail
                  go_meet
                  exact ⟨g5, rfl, HG.out.1, HG.out.2, HGG.out⟩
                exact AllReadyH.nil
              exact AllReadyH.nil
            refine AllReadyH.cons (by simp only [List.getElem?_toArray, List.getElem?_cons_succ, List.getElem?_cons_zero]; first | done | rfl) (fun K hK => ?_) ?_
            · skip
              refine step_call rfl (num_u g b 1 _ (RpI.rdr (by repeat (first | exact HI.out | apply RpI.drew | apply RpI.drewN | apply RpI.alloc))) hl) (by go_simp; all_goals first | rfl | (simp only [IntKind.wrap_u64]; rfl)) ?_
              rintro e v2 ⟨rfl, hr, hg⟩
              refine ⟨_, rfl, ?_⟩
              have HI' := Lib.hid (RpI.read (z' := ust b 2) (by repeat (first | exact HI.out | apply RpI.drew | apply RpI.drewN | apply RpI.alloc)) hr hg)
              have HO' := Lib.hid (Own.grownG (by repeat (first | exact HO.out | apply own_drew | apply own_drewN' | apply Own.alloc)) hg)
              have HE' := Lib.hid (EA.grown (by repeat (first | exact HE.out | apply EA.drew | apply EA.drewN | apply EA.alloc)) hg (fun e => by have := HGG.out; simp at e; omega))
              clear hr hg
              clear HI HO HE
              have HI := HI'
              have HO := HO'
              have HE := HE'
              clear HI' HO' HE'
              refine hK.out _ _ ?_ (fun hHeld => ?_)
              · (try dsimp only); (first | done | trivial)
              clear hK K
              try simp only [Act.put, List.setIfInBounds_toArray, List.set_cons_zero, List.set_cons_succ]
              refine wpAnyH_ready (rs := [2]) (by kernel_rfl) (by simp) ?_
              refine AllReadyH.cons (by simp only [List.getElem?_toArray, List.getElem?_cons_succ, List.getElem?_cons_zero]; first | done | rfl) (fun K hK => ?_) ?_
              · skip
                refine step_conv_bs rfl (.tmp 27) rfl rfl (Own.rd (by repeat (first | exact HO.out | apply own_drew | apply own_drewN' | apply Own.alloc))) ?_
                refine hK.out _ _ ?_ (fun hHeld => ?_)
                · (try dsimp only); (first | done | trivial)
                clear hK K
                try simp only [Act.put, List.setIfInBounds_toArray, List.set_cons_zero, List.set_cons_succ]
                refine wpAnyH_take (i := 8) (v := ?_) (by simp only [List.getElem?_toArray, List.getElem?_cons_succ, List.getElem?_cons_zero]; first | done | rfl) (by kernel_rfl) (by kernel_rfl) (by kernel_rfl) (fun _ _ _ h => h) (Or.inl ⟨by rfl, ?hy⟩) (by assumption) ?_
                case hy => (intro w hSw; (try dsimp only at hSw); go_simp; all_goals with_reducible rfl)
                try simp only [Act.put, List.setIfInBounds_toArray, List.set_cons_zero, List.set_cons_succ]
                refine wpAnyH_ready (rs := [10]) (by kernel_rfl) (by simp) ?_
                refine AllReadyH.cons (by simp only [List.getElem?_toArray, List.getElem?_cons_succ, List.getElem?_cons_zero]; first | done | rfl) (fun K hK => ?_) ?_
                · skip
                  refine step_store_ent rfl (.tmp 5) (.tmp 34) rfl g5 (lmpOut 32 b 0) (nearF (ust b 0).num) (ust b 1).num rfl rfl [] 0 0 (by repeat (first | exact HE.out | apply EA.drew | apply EA.drewN | apply EA.alloc)) ?_
                  intro v2 hv2
                  have HG := Lib.hid (show RpI w v2 g (ust b 2) ∧ EA g5 (lmpOut 32 b 0) (nearF (ust b 0).num) (ust b 1).num v2 from ⟨by rw [hv2]; exact RpI.setRow (by repeat (first | exact HI.out | apply RpI.drew | apply RpI.drewN | apply RpI.alloc)) HGG.out _, by rw [hv2]; exact ⟨setRow_heap _ _ _ _ _ _ (EA.row (by repeat (first | exact HE.out | apply EA.drew | apply EA.drewN | apply EA.alloc)))⟩⟩)
                  clear hv2
                  refine hK.out _ _ ?_ (fun hHeld => ?_)
                  · (try dsimp only); (first | done | trivial)
                  clear hK K
                  try simp only [Act.put, List.setIfInBounds_toArray, List.set_cons_zero, List.set_cons_succ]
                  refine wpAnyH_done (by kernel_rfl) ?_ _
                  refine NoPanic.normal ?_
                  go_wp2_with fail
                  go_meet
                  exact ⟨g5, rfl, HG.out.1, HG.out.2, HGG.out⟩
                exact AllReadyH.nil
              exact AllReadyH.nil
            exact AllReadyH.nil
          exact AllReadyH.nil
        exact AllReadyH.nil
      exact AllReadyH.nil
    exact AllReadyH.nil
  case rest =>
    obtain ⟨g5, rfl, hi, he, hge⟩ := hcut
    clear HI
    have HI := Lib.hid hi
    have HE := Lib.hid he
    have HGE := Lib.hid hge
    clear hi he hge W
    obtain ⟨W, hW⟩ : ∃ W, W = wc := ⟨_, rfl⟩
    rw [← hW] at HI HE ⊢
    clear hW wc
    go_upto_region 9 with fail
    go_cut [6] (fun s6 wx => ∃ g6, s6 = .pointer (some ⟨g6, 0, none⟩) ∧ RpI w wx g (ust b 4) ∧ PA g6 (preP b) wx ∧ g < g6)
    case first =>
      refine wp_region_noPanic ?_
      refine wp_region_held_drew (S := (fun w' => EA g5 (lmpOut 32 b 0) (nearF (ust b 0).num) (ust b 1).num w')) (by kernel_rfl) ?_ (fun hHeld => ?_)
      · (try dsimp only); (first | done | (repeat (first | exact HE.out | apply EA.drew | apply EA.drewN | apply EA.alloc)))
      refine wpAnyH_take (i := 0) (by simp only [List.getElem?_toArray, List.getElem?_cons_succ, List.getElem?_cons_zero]; first | done | rfl) (by kernel_rfl) (by kernel_rfl) (by kernel_rfl) (fun _ _ _ h => h) (yields_ent' (by rfl) _ rfl g5 (lmpOut 32 b 0) (nearF (ust b 0).num) (ust b 1).num rfl (fun w hw => hw)) (by assumption) ?_
      try simp only [Act.put, List.setIfInBounds_toArray, List.set_cons_zero, List.set_cons_succ]
      refine wpAnyH_take (i := 1) (v := ?_) (by simp only [List.getElem?_toArray, List.getElem?_cons_succ, List.getElem?_cons_zero]; first | done | rfl) (by kernel_rfl) (by kernel_rfl) (by kernel_rfl) (fun _ _ _ h => h) (Or.inl ⟨by rfl, ?hy⟩) (by assumption) ?_
      case hy => (intro w hSw; (try dsimp only at hSw); go_simp; all_goals with_reducible rfl)
      try simp only [Act.put, List.setIfInBounds_toArray, List.set_cons_zero, List.set_cons_succ]
      refine wpAnyH_take (i := 4) (v := ?_) (by simp only [List.getElem?_toArray, List.getElem?_cons_succ, List.getElem?_cons_zero]; first | done | rfl) (by kernel_rfl) (by kernel_rfl) (by kernel_rfl) (fun _ _ _ h => h) (Or.inl ⟨by rfl, ?hy⟩) (by assumption) ?_
      case hy => (intro w hSw; (try dsimp only at hSw); go_simp; all_goals with_reducible rfl)
      try simp only [Act.put, List.setIfInBounds_toArray, List.set_cons_zero, List.set_cons_succ]
      refine wpAnyH_ready (rs := [2, 8]) (by kernel_rfl) (by simp) ?_
      refine AllReadyH.cons (by simp only [List.getElem?_toArray, List.getElem?_cons_succ, List.getElem?_cons_zero]; first | done | rfl) (fun K hK => ?_) ?_
      · skip
        refine step_call rfl (num_u g b 2 _ (RpI.rdr (by repeat (first | exact HI.out | apply RpI.drew | apply RpI.drewN | apply RpI.alloc))) hl) (by go_simp; all_goals first | rfl | (simp only [IntKind.wrap_u64]; rfl)) ?_
        rintro e v2 ⟨rfl, hr, hg⟩
        refine ⟨_, rfl, ?_⟩
        have HI' := Lib.hid (RpI.read (z' := ust b 3) (by repeat (first | exact HI.out | apply RpI.drew | apply RpI.drewN | apply RpI.alloc)) hr hg)
        have HE' := Lib.hid (EA.grown (by repeat (first | exact HE.out | apply EA.drew | apply EA.drewN | apply EA.alloc)) hg (fun e => by have := HGE.out; simp at e; omega))
        clear hr hg
        clear HI HE
        have HI := HI'
        have HE := HE'
        clear HI' HE'
        refine hK.out _ _ ?_ (fun hHeld => ?_)
        · (try dsimp only); (first | done | (repeat (first | exact HE.out | apply EA.drew | apply EA.drewN | apply EA.alloc)))
        clear hK K
        try simp only [Act.put, List.setIfInBounds_toArray, List.set_cons_zero, List.set_cons_succ]
        refine wpAnyH_ready (rs := [3, 8]) (by kernel_rfl) (by simp) ?_
        refine AllReadyH.cons (by simp only [List.getElem?_toArray, List.getElem?_cons_succ, List.getElem?_cons_zero]; first | done | rfl) (fun K hK => ?_) ?_
        · skip
          refine step_call rfl (nearP_any (ust b 2).num _ (RS.num_bd _).1 (RS.num_bd _).2) (by go_simp; all_goals first | rfl | (simp only [IntKind.wrap_u64]; rfl)) ?_
          rintro e _ ⟨rfl, rfl⟩
          refine ⟨_, rfl, ?_⟩
          refine hK.out _ _ ?_ (fun hHeld => ?_)
          · (try dsimp only); (first | done | (repeat (first | exact HE.out | apply EA.drew | apply EA.drewN | apply EA.alloc)))
          clear hK K
          try simp only [Act.put, List.setIfInBounds_toArray, List.set_cons_zero, List.set_cons_succ]
          refine wpAnyH_ready (rs := [5, 8]) (by kernel_rfl) (by simp) ?_
          refine AllReadyH.cons (by simp only [List.getElem?_toArray, List.getElem?_cons_succ, List.getElem?_cons_zero]; first | done | rfl) (fun K hK => ?_) ?_
          · skip
            refine step_call rfl (num_u g b 3 _ (RpI.rdr (by repeat (first | exact HI.out | apply RpI.drew | apply RpI.drewN | apply RpI.alloc))) hl) (by go_simp; all_goals first | rfl | (simp only [IntKind.wrap_u64]; rfl)) ?_
            rintro e v2 ⟨rfl, hr, hg⟩
            refine ⟨_, rfl, ?_⟩
            have HI' := Lib.hid (RpI.read (z' := ust b 4) (by repeat (first | exact HI.out | apply RpI.drew | apply RpI.drewN | apply RpI.alloc)) hr hg)
            have HE' := Lib.hid (EA.grown (by repeat (first | exact HE.out | apply EA.drew | apply EA.drewN | apply EA.alloc)) hg (fun e => by have := HGE.out; simp at e; omega))
            clear hr hg
            clear HI HE
            have HI := HI'
            have HE := HE'
            clear HI' HE'
            refine hK.out _ _ ?_ (fun hHeld => ?_)
            · (try dsimp only); (first | done | (repeat (first | exact HE.out | apply EA.drew | apply EA.drewN | apply EA.alloc)))
            clear hK K
            try simp only [Act.put, List.setIfInBounds_toArray, List.set_cons_zero, List.set_cons_succ]
            refine wpAnyH_ready (rs := [6, 8]) (by kernel_rfl) (by simp) ?_
            refine AllReadyH.cons (by simp only [List.getElem?_toArray, List.getElem?_cons_succ, List.getElem?_cons_zero]; first | done | rfl) (fun K hK => ?_) ?_
            · skip
              refine step_call rfl (nearP_any (ust b 3).num _ (RS.num_bd _).1 (RS.num_bd _).2) (by go_simp; all_goals first | rfl | (simp only [IntKind.wrap_u64]; rfl)) ?_
              rintro e _ ⟨rfl, rfl⟩
              refine ⟨_, rfl, ?_⟩
              refine hK.out _ _ ?_ (fun hHeld => ?_)
              · (try dsimp only); (first | done | (repeat (first | exact HE.out | apply EA.drew | apply EA.drewN | apply EA.alloc)))
              clear hK K
              try simp only [Act.put, List.setIfInBounds_toArray, List.set_cons_zero, List.set_cons_succ]
              refine wpAnyH_take (i := 7) (by simp only [List.getElem?_toArray, List.getElem?_cons_succ, List.getElem?_cons_zero]; first | done | rfl) (by kernel_rfl) (by kernel_rfl) (by kernel_rfl) (fun _ _ _ h => h) (yields_build_pr (by rfl) rfl (by simp only [List.map_toArray, List.map_cons, List.map_nil]; rfl) (built_pr3 (lmpOut 32 b 0) (nearF (ust b 0).num) (ust b 1).num _ _)) (by assumption) ?_
              try simp only [Act.put, List.setIfInBounds_toArray, List.set_cons_zero, List.set_cons_succ]
              refine wpAnyH_ready (rs := [8]) (by kernel_rfl) (by simp) ?_
              refine AllReadyH.cons (by simp only [List.getElem?_toArray, List.getElem?_cons_succ, List.getElem?_cons_zero]; first | done | rfl) (fun K hK => ?_) ?_
              · skip
                refine step_value rfl (run_alloc_op rfl (run_alloc_pr _)) ?_
                try dsimp only
                obtain ⟨g6, hg6⟩ : ∃ g6, g6 = v2.heap.size := ⟨_, rfl⟩
                try rw [show v2.drew.heap.size = v2.heap.size from rfl]
                rw [← hg6]
                refine k_world (fun W' => PA g6 zeroP W' ∧ RpI w W' g (ust b 4) ∧ EA g5 (lmpOut 32 b 0) (nearF (ust b 0).num) (ust b 1).num W' ∧ g < g6 ∧ g5 < g6) ⟨(by rw [hg6]; first | exact PA.new zeroP _ | exact (PA.new zeroP _).drew), (by repeat (first | exact HI.out | apply RpI.drew | apply RpI.drewN | apply RpI.alloc)), (by repeat (first | exact HE.out | apply EA.drew | apply EA.drewN | apply EA.alloc)), (by rw [hg6]; exact RpI.glt (by repeat (first | exact HI.out | apply RpI.drew | apply RpI.drewN | apply RpI.alloc))), (by rw [hg6]; exact EA.lt (by repeat (first | exact HE.out | apply EA.drew | apply EA.drewN | apply EA.alloc)))⟩ ?_
                rintro v2 ⟨hp, hi, he, hgg, hne⟩
                have HP := Lib.hid hp
                have HGG := Lib.hid hgg
                have HNE := Lib.hid hne
                clear HI HE
                have HI := Lib.hid hi
                have HE := Lib.hid he
                clear hp hi he hgg hne hg6
                refine hK.out _ _ ?_ (fun hHeld => ?_)
                · (try dsimp only); (first | done | (repeat (first | exact HE.out | apply EA.drew | apply EA.drewN | apply EA.alloc)))
                clear hK K
                try simp only [Act.put, List.setIfInBounds_toArray, List.set_cons_zero, List.set_cons_succ]
                refine wpAnyH_ready (rs := [9]) (by kernel_rfl) (by simp) ?_
                refine AllReadyH.cons (by simp only [List.getElem?_toArray, List.getElem?_cons_succ, List.getElem?_cons_zero]; first | done | rfl) (fun K hK => ?_) ?_
                · skip
                  refine step_store_pr rfl (.tmp 6) (.tmp 42) rfl g6 (preP b) rfl rfl zeroP (by repeat (first | exact HP.out | apply PA.drew | apply PA.drewN | apply PA.alloc)) ?_
                  intro v2 hv2
                  have HG := Lib.hid (show RpI w v2 g (ust b 4) ∧ PA g6 (preP b) v2 ∧ EA g5 (lmpOut 32 b 0) (nearF (ust b 0).num) (ust b 1).num v2 from ⟨by rw [hv2]; exact RpI.setRow (by repeat (first | exact HI.out | apply RpI.drew | apply RpI.drewN | apply RpI.alloc)) HGG.out _, by rw [hv2]; exact ⟨setRow_heap _ _ _ _ _ _ (PA.row (by repeat (first | exact HP.out | apply PA.drew | apply PA.drewN | apply PA.alloc)))⟩, by rw [hv2]; exact ⟨by rw [setRow_other _ _ _ _ (by have := HNE.out; omega)]; exact EA.row (by repeat (first | exact HE.out | apply EA.drew | apply EA.drewN | apply EA.alloc))⟩⟩)
                  clear hv2
                  clear HE
                  have HE := Lib.hid HG.out.2.2
                  refine hK.out _ _ ?_ (fun hHeld => ?_)
                  · (try dsimp only); (first | done | (repeat (first | exact HE.out | apply EA.drew | apply EA.drewN | apply EA.alloc)))
                  clear hK K
                  try simp only [Act.put, List.setIfInBounds_toArray, List.set_cons_zero, List.set_cons_succ]
                  refine wpAnyH_done (by kernel_rfl) ?_ _
                  refine NoPanic.normal ?_
                  go_wp2_with fail
                  go_meet
                  exact ⟨g6, rfl, HG.out.1, HG.out.2.1, HGG.out⟩
                exact AllReadyH.nil
              exact AllReadyH.nil
            refine AllReadyH.cons (by simp only [List.getElem?_toArray, List.getElem?_cons_succ, List.getElem?_cons_zero]; first | done | rfl) (fun K hK => ?_) ?_
            · skip
              refine step_value rfl (run_alloc_op rfl (run_alloc_pr _)) ?_
              try dsimp only
              obtain ⟨g6, hg6⟩ : ∃ g6, g6 = v2.heap.size := ⟨_, rfl⟩
              try rw [show v2.drew.heap.size = v2.heap.size from rfl]
              rw [← hg6]
              refine k_world (fun W' => PA g6 zeroP W' ∧ RpI w W' g (ust b 4) ∧ EA g5 (lmpOut 32 b 0) (nearF (ust b 0).num) (ust b 1).num W' ∧ g < g6 ∧ g5 < g6) ⟨(by rw [hg6]; first | exact PA.new zeroP _ | exact (PA.new zeroP _).drew), (by repeat (first | exact HI.out | apply RpI.drew | apply RpI.drewN | apply RpI.alloc)), (by repeat (first | exact HE.out | apply EA.drew | apply EA.drewN | apply EA.alloc)), (by rw [hg6]; exact RpI.glt (by repeat (first | exact HI.out | apply RpI.drew | apply RpI.drewN | apply RpI.alloc))), (by rw [hg6]; exact EA.lt (by repeat (first | exact HE.out | apply EA.drew | apply EA.drewN | apply EA.alloc)))⟩ ?_
              rintro v2 ⟨hp, hi, he, hgg, hne⟩
              have HP := Lib.hid hp
              have HGG := Lib.hid hgg
              have HNE := Lib.hid hne
              clear HI HE
              have HI := Lib.hid hi
              have HE := Lib.hid he
              clear hp hi he hgg hne hg6
              refine hK.out _ _ ?_ (fun hHeld => ?_)
              · (try dsimp only); (first | done | (repeat (first | exact HE.out | apply EA.drew | apply EA.drewN | apply EA.alloc)))
              clear hK K
              try simp only [Act.put, List.setIfInBounds_toArray, List.set_cons_zero, List.set_cons_succ]
              refine wpAnyH_ready (rs := [6]) (by kernel_rfl) (by simp) ?_
              refine AllReadyH.cons (by simp only [List.getElem?_toArray, List.getElem?_cons_succ, List.getElem?_cons_zero]; first | done | rfl) (fun K hK => ?_) ?_
              · skip
                refine step_call rfl (nearP_any (ust b 3).num _ (RS.num_bd _).1 (RS.num_bd _).2) (by go_simp; all_goals first | rfl | (simp only [IntKind.wrap_u64]; rfl)) ?_
                rintro e _ ⟨rfl, rfl⟩
                refine ⟨_, rfl, ?_⟩
                refine hK.out _ _ ?_ (fun hHeld => ?_)
                · (try dsimp only); (first | done | (repeat (first | exact HE.out | apply EA.drew | apply EA.drewN | apply EA.alloc)))
                clear hK K
                try simp only [Act.put, List.setIfInBounds_toArray, List.set_cons_zero, List.set_cons_succ]
                refine wpAnyH_take (i := 7) (by simp only [List.getElem?_toArray, List.getElem?_cons_succ, List.getElem?_cons_zero]; first | done | rfl) (by kernel_rfl) (by kernel_rfl) (by kernel_rfl) (fun _ _ _ h => h) (yields_build_pr (by rfl) rfl (by simp only [List.map_toArray, List.map_cons, List.map_nil]; rfl) (built_pr3 (lmpOut 32 b 0) (nearF (ust b 0).num) (ust b 1).num _ _)) (by assumption) ?_
                try simp only [Act.put, List.setIfInBounds_toArray, List.set_cons_zero, List.set_cons_succ]
                refine wpAnyH_ready (rs := [9]) (by kernel_rfl) (by simp) ?_
                refine AllReadyH.cons (by simp only [List.getElem?_toArray, List.getElem?_cons_succ, List.getElem?_cons_zero]; first | done | rfl) (fun K hK => ?_) ?_
                · skip
                  refine step_store_pr rfl (.tmp 6) (.tmp 42) rfl g6 (preP b) rfl rfl zeroP (by repeat (first | exact HP.out | apply PA.drew | apply PA.drewN | apply PA.alloc)) ?_
                  intro v2 hv2
                  have HG := Lib.hid (show RpI w v2 g (ust b 4) ∧ PA g6 (preP b) v2 ∧ EA g5 (lmpOut 32 b 0) (nearF (ust b 0).num) (ust b 1).num v2 from ⟨by rw [hv2]; exact RpI.setRow (by repeat (first | exact HI.out | apply RpI.drew | apply RpI.drewN | apply RpI.alloc)) HGG.out _, by rw [hv2]; exact ⟨setRow_heap _ _ _ _ _ _ (PA.row (by repeat (first | exact HP.out | apply PA.drew | apply PA.drewN | apply PA.alloc)))⟩, by rw [hv2]; exact ⟨by rw [setRow_other _ _ _ _ (by have := HNE.out; omega)]; exact EA.row (by repeat (first | exact HE.out | apply EA.drew | apply EA.drewN | apply EA.alloc))⟩⟩)
                  clear hv2
                  clear HE
                  have HE := Lib.hid HG.out.2.2
                  refine hK.out _ _ ?_ (fun hHeld => ?_)
                  · (try dsimp only); (first | done | (repeat (first | exact HE.out | apply EA.drew | apply EA.drewN | apply EA.alloc)))
                  clear hK K
                  try simp only [Act.put, List.setIfInBounds_toArray, List.set_cons_zero, List.set_cons_succ]
                  refine wpAnyH_done (by kernel_rfl) ?_ _
                  refine NoPanic.normal ?_
                  go_wp2_with fail
                  go_meet
                  exact ⟨g6, rfl, HG.out.1, HG.out.2.1, HGG.out⟩
                exact AllReadyH.nil
              exact AllReadyH.nil
            exact AllReadyH.nil
          refine AllReadyH.cons (by simp only [List.getElem?_toArray, List.getElem?_cons_succ, List.getElem?_cons_zero]; first | done | rfl) (fun K hK => ?_) ?_
          · skip
            refine step_value rfl (run_alloc_op rfl (run_alloc_pr _)) ?_
            try dsimp only
            obtain ⟨g6, hg6⟩ : ∃ g6, g6 = v2.heap.size := ⟨_, rfl⟩
            try rw [show v2.drew.heap.size = v2.heap.size from rfl]
            rw [← hg6]
            refine k_world (fun W' => PA g6 zeroP W' ∧ RpI w W' g (ust b 3) ∧ EA g5 (lmpOut 32 b 0) (nearF (ust b 0).num) (ust b 1).num W' ∧ g < g6 ∧ g5 < g6) ⟨(by rw [hg6]; first | exact PA.new zeroP _ | exact (PA.new zeroP _).drew), (by repeat (first | exact HI.out | apply RpI.drew | apply RpI.drewN | apply RpI.alloc)), (by repeat (first | exact HE.out | apply EA.drew | apply EA.drewN | apply EA.alloc)), (by rw [hg6]; exact RpI.glt (by repeat (first | exact HI.out | apply RpI.drew | apply RpI.drewN | apply RpI.alloc))), (by rw [hg6]; exact EA.lt (by repeat (first | exact HE.out | apply EA.drew | apply EA.drewN | apply EA.alloc)))⟩ ?_
            rintro v2 ⟨hp, hi, he, hgg, hne⟩
            have HP := Lib.hid hp
            have HGG := Lib.hid hgg
            have HNE := Lib.hid hne
            clear HI HE
            have HI := Lib.hid hi
            have HE := Lib.hid he
            clear hp hi he hgg hne hg6
            refine hK.out _ _ ?_ (fun hHeld => ?_)
            · (try dsimp only); (first | done | (repeat (first | exact HE.out | apply EA.drew | apply EA.drewN | apply EA.alloc)))
            clear hK K
            try simp only [Act.put, List.setIfInBounds_toArray, List.set_cons_zero, List.set_cons_succ]
            refine wpAnyH_ready (rs := [5]) (by kernel_rfl) (by simp) ?_
            refine AllReadyH.cons (by simp only [List.getElem?_toArray, List.getElem?_cons_succ, List.getElem?_cons_zero]; first | done | rfl) (fun K hK => ?_) ?_
            · skip
              refine step_call rfl (num_u g b 3 _ (RpI.rdr (by repeat (first | exact HI.out | apply RpI.drew | apply RpI.drewN | apply RpI.alloc))) hl) (by go_simp; all_goals first | rfl | (simp only [IntKind.wrap_u64]; rfl)) ?_
              rintro e v2 ⟨rfl, hr, hg⟩
              refine ⟨_, rfl, ?_⟩
              have HI' := Lib.hid (RpI.read (z' := ust b 4) (by repeat (first | exact HI.out | apply RpI.drew | apply RpI.drewN | apply RpI.alloc)) hr hg)
              have HE' := Lib.hid (EA.grown (by repeat (first | exact HE.out | apply EA.drew | apply EA.drewN | apply EA.alloc)) hg (fun e => by have := HGE.out; simp at e; omega))
              have HP' := Lib.hid (PA.grown (by repeat (first | exact HP.out | apply PA.drew | apply PA.drewN | apply PA.alloc)) hg (fun e => by have := HGG.out; simp at e; omega))
              clear hr hg
              clear HI HE HP
              have HI := HI'
              have HE := HE'
              have HP := HP'
              clear HI' HE' HP'
              refine hK.out _ _ ?_ (fun hHeld => ?_)
              · (try dsimp only); (first | done | (repeat (first | exact HE.out | apply EA.drew | apply EA.drewN | apply EA.alloc)))
              clear hK K
              try simp only [Act.put, List.setIfInBounds_toArray, List.set_cons_zero, List.set_cons_succ]
              refine wpAnyH_ready (rs := [6]) (by kernel_rfl) (by simp) ?_
              refine AllReadyH.cons (by simp only [List.getElem?_toArray, List.getElem?_cons_succ, List.getElem?_cons_zero]; first | done | rfl) (fun K hK => ?_) ?_
              · skip
                refine step_call rfl (nearP_any (ust b 3).num _ (RS.num_bd _).1 (RS.num_bd _).2) (by go_simp; all_goals first | rfl | (simp only [IntKind.wrap_u64]; rfl)) ?_
                rintro e _ ⟨rfl, rfl⟩
                refine ⟨_, rfl, ?_⟩
                refine hK.out _ _ ?_ (fun hHeld => ?_)
                · (try dsimp only); (first | done | (repeat (first | exact HE.out | apply EA.drew | apply EA.drewN | apply EA.alloc)))
                clear hK K
                try simp only [Act.put, List.setIfInBounds_toArray, List.set_cons_zero, List.set_cons_succ]
                refine wpAnyH_take (i := 7) (by simp only [List.getElem?_toArray, List.getElem?_cons_succ, List.getElem?_cons_zero]; first | done | rfl) (by kernel_rfl) (by kernel_rfl) (by kernel_rfl) (fun _ _ _ h => h) (yields_build_pr (by rfl) rfl (by simp only [List.map_toArray, List.map_cons, List.map_nil]; rfl) (built_pr3 (lmpOut 32 b 0) (nearF (ust b 0).num) (ust b 1).num _ _)) (by assumption) ?_
                try simp only [Act.put, List.setIfInBounds_toArray, List.set_cons_zero, List.set_cons_succ]
                refine wpAnyH_ready (rs := [9]) (by kernel_rfl) (by simp) ?_
                refine AllReadyH.cons (by simp only [List.getElem?_toArray, List.getElem?_cons_succ, List.getElem?_cons_zero]; first | done | rfl) (fun K hK => ?_) ?_
                · skip
                  refine step_store_pr rfl (.tmp 6) (.tmp 42) rfl g6 (preP b) rfl rfl zeroP (by repeat (first | exact HP.out | apply PA.drew | apply PA.drewN | apply PA.alloc)) ?_
                  intro v2 hv2
                  have HG := Lib.hid (show RpI w v2 g (ust b 4) ∧ PA g6 (preP b) v2 ∧ EA g5 (lmpOut 32 b 0) (nearF (ust b 0).num) (ust b 1).num v2 from ⟨by rw [hv2]; exact RpI.setRow (by repeat (first | exact HI.out | apply RpI.drew | apply RpI.drewN | apply RpI.alloc)) HGG.out _, by rw [hv2]; exact ⟨setRow_heap _ _ _ _ _ _ (PA.row (by repeat (first | exact HP.out | apply PA.drew | apply PA.drewN | apply PA.alloc)))⟩, by rw [hv2]; exact ⟨by rw [setRow_other _ _ _ _ (by have := HNE.out; omega)]; exact EA.row (by repeat (first | exact HE.out | apply EA.drew | apply EA.drewN | apply EA.alloc))⟩⟩)
                  clear hv2
                  clear HE
                  have HE := Lib.hid HG.out.2.2
                  refine hK.out _ _ ?_ (fun hHeld => ?_)
                  · (try dsimp only); (first | done | (repeat (first | exact HE.out | apply EA.drew | apply EA.drewN | apply EA.alloc)))
                  clear hK K
                  try simp only [Act.put, List.setIfInBounds_toArray, List.set_cons_zero, List.set_cons_succ]
                  refine wpAnyH_done (by kernel_rfl) ?_ _
                  refine NoPanic.normal ?_
                  go_wp2_with fail
                  go_meet
                  exact ⟨g6, rfl, HG.out.1, HG.out.2.1, HGG.out⟩
                exact AllReadyH.nil
              exact AllReadyH.nil
            exact AllReadyH.nil
          exact AllReadyH.nil
        refine AllReadyH.cons (by simp only [List.getElem?_toArray, List.getElem?_cons_succ, List.getElem?_cons_zero]; first | done | rfl) (fun K hK => ?_) ?_
        · skip
          refine step_value rfl (run_alloc_op rfl (run_alloc_pr _)) ?_
          try dsimp only
          obtain ⟨g6, hg6⟩ : ∃ g6, g6 = v2.heap.size := ⟨_, rfl⟩
          try rw [show v2.drew.heap.size = v2.heap.size from rfl]
          rw [← hg6]
          refine k_world (fun W' => PA g6 zeroP W' ∧ RpI w W' g (ust b 3) ∧ EA g5 (lmpOut 32 b 0) (nearF (ust b 0).num) (ust b 1).num W' ∧ g < g6 ∧ g5 < g6) ⟨(by rw [hg6]; first | exact PA.new zeroP _ | exact (PA.new zeroP _).drew), (by repeat (first | exact HI.out | apply RpI.drew | apply RpI.drewN | apply RpI.alloc)), (by repeat (first | exact HE.out | apply EA.drew | apply EA.drewN | apply EA.alloc)), (by rw [hg6]; exact RpI.glt (by repeat (first | exact HI.out | apply RpI.drew | apply RpI.drewN | apply RpI.alloc))), (by rw [hg6]; exact EA.lt (by repeat (first | exact HE.out | apply EA.drew | apply EA.drewN | apply EA.alloc)))⟩ ?_
          rintro v2 ⟨hp, hi, he, hgg, hne⟩
          have HP := Lib.hid hp
          have HGG := Lib.hid hgg
          have HNE := Lib.hid hne
          clear HI HE
          have HI := Lib.hid hi
          have HE := Lib.hid he
          clear hp hi he hgg hne hg6
          refine hK.out _ _ ?_ (fun hHeld => ?_)
          · (try dsimp only); (first | done | (repeat (first | exact HE.out | apply EA.drew | apply EA.drewN | apply EA.alloc)))
          clear hK K
          try simp only [Act.put, List.setIfInBounds_toArray, List.set_cons_zero, List.set_cons_succ]
          refine wpAnyH_ready (rs := [3]) (by kernel_rfl) (by simp) ?_
          refine AllReadyH.cons (by simp only [List.getElem?_toArray, List.getElem?_cons_succ, List.getElem?_cons_zero]; first | done | rfl) (fun K hK => ?_) ?_
          · skip
            refine step_call rfl (nearP_any (ust b 2).num _ (RS.num_bd _).1 (RS.num_bd _).2) (by go_simp; all_goals first | rfl | (simp only [IntKind.wrap_u64]; rfl)) ?_
            rintro e _ ⟨rfl, rfl⟩
            refine ⟨_, rfl, ?_⟩
            refine hK.out _ _ ?_ (fun hHeld => ?_)
            · (try dsimp only); (first | done | (repeat (first | exact HE.out | apply EA.drew | apply EA.drewN | apply EA.alloc)))
            clear hK K
            try simp only [Act.put, List.setIfInBounds_toArray, List.set_cons_zero, List.set_cons_succ]
            refine wpAnyH_ready (rs := [5]) (by kernel_rfl) (by simp) ?_
            refine AllReadyH.cons (by simp only [List.getElem?_toArray, List.getElem?_cons_succ, List.getElem?_cons_zero]; first | done | rfl) (fun K hK => ?_) ?_
            · skip
              refine step_call rfl (num_u g b 3 _ (RpI.rdr (by repeat (first | exact HI.out | apply RpI.drew | apply RpI.drewN | apply RpI.alloc))) hl) (by go_simp; all_goals first | rfl | (simp only [IntKind.wrap_u64]; rfl)) ?_
              rintro e v2 ⟨rfl, hr, hg⟩
              refine ⟨_, rfl, ?_⟩
              have HI' := Lib.hid (RpI.read (z' := ust b 4) (by repeat (first | exact HI.out | apply RpI.drew | apply RpI.drewN | apply RpI.alloc)) hr hg)
              have HE' := Lib.hid (EA.grown (by repeat (first | exact HE.out | apply EA.drew | apply EA.drewN | apply EA.alloc)) hg (fun e => by have := HGE.out; simp at e; omega))
              have HP' := Lib.hid (PA.grown (by repeat (first | exact HP.out | apply PA.drew | apply PA.drewN | apply PA.alloc)) hg (fun e => by have := HGG.out; simp at e; omega))
              clear hr hg
              clear HI HE HP
              have HI := HI'
              have HE := HE'
              have HP := HP'
              clear HI' HE' HP'
              refine hK.out _ _ ?_ (fun hHeld => ?_)
              · (try dsimp only); (first | done | (repeat (first | exact HE.out | apply EA.drew | apply EA.drewN | apply EA.alloc)))
              clear hK K
              try simp only [Act.put, List.setIfInBounds_toArray, List.set_cons_zero, List.set_cons_succ]
              refine wpAnyH_ready (rs := [6]) (by kernel_rfl) (by simp) ?_
              refine AllReadyH.cons (by simp only [List.getElem?_toArray, List.getElem?_cons_succ, List.getElem?_cons_zero]; first | done | rfl) (fun K hK => ?_) ?_
              · skip
                refine step_call rfl (nearP_any (ust b 3).num _ (RS.num_bd _).1 (RS.num_bd _).2) (by go_simp; all_goals first | rfl | (simp only [IntKind.wrap_u64]; rfl)) ?_
                rintro e _ ⟨rfl, rfl⟩
                refine ⟨_, rfl, ?_⟩
                refine hK.out _ _ ?_ (fun hHeld => ?_)
                · (try dsimp only); (first | done | (repeat (first | exact HE.out | apply EA.drew | apply EA.drewN | apply EA.alloc)))
                clear hK K
                try simp only [Act.put, List.setIfInBounds_toArray, List.set_cons_zero, List.set_cons_succ]
                refine wpAnyH_take (i := 7) (by simp only [List.getElem?_toArray, List.getElem?_cons_succ, List.getElem?_cons_zero]; first | done | rfl) (by kernel_rfl) (by kernel_rfl) (by kernel_rfl) (fun _ _ _ h => h) (yields_build_pr (by rfl) rfl (by simp only [List.map_toArray, List.map_cons, List.map_nil]; rfl) (built_pr3 (lmpOut 32 b 0) (nearF (ust b 0).num) (ust b 1).num _ _)) (by assumption) ?_
                try simp only [Act.put, List.setIfInBounds_toArray, List.set_cons_zero, List.set_cons_succ]
                refine wpAnyH_ready (rs := [9]) (by kernel_rfl) (by simp) ?_
                refine AllReadyH.cons (by simp only [List.getElem?_toArray, List.getElem?_cons_succ, List.getElem?_cons_zero]; first | done | rfl) (fun K hK => ?_) ?_
                · skip
                  refine step_store_pr rfl (.tmp 6) (.tmp 42) rfl g6 (preP b) rfl rfl zeroP (by repeat (first | exact HP.out | apply PA.drew | apply PA.drewN | apply PA.alloc)) ?_
                  intro v2 hv2
                  have HG := Lib.hid (show RpI w v2 g (ust b 4) ∧ PA g6 (preP b) v2 ∧ EA g5 (lmpOut 32 b 0) (nearF (ust b 0).num) (ust b 1).num v2 from ⟨by rw [hv2]; exact RpI.setRow (by repeat (first | exact HI.out | apply RpI.drew | apply RpI.drewN | apply RpI.alloc)) HGG.out _, by rw [hv2]; exact ⟨setRow_heap _ _ _ _ _ _ (PA.row (by repeat (first | exact HP.out | apply PA.drew | apply PA.drewN | apply PA.alloc)))⟩, by rw [hv2]; exact ⟨by rw [setRow_other _ _ _ _ (by have := HNE.out; omega)]; exact EA.row (by repeat (first | exact HE.out | apply EA.drew | apply EA.drewN | apply EA.alloc))⟩⟩)
                  clear hv2
                  clear HE
                  have HE := Lib.hid HG.out.2.2
                  refine hK.out _ _ ?_ (fun hHeld => ?_)
                  · (try dsimp only); (first | done | (repeat (first | exact HE.out | apply EA.drew | apply EA.drewN | apply EA.alloc)))
                  clear hK K
                  try simp only [Act.put, List.setIfInBounds_toArray, List.set_cons_zero, List.set_cons_succ]
                  refine wpAnyH_done (by kernel_rfl) ?_ _
                  refine NoPanic.normal ?_
                  go_wp2_with fail
                  go_meet
                  exact ⟨g6, rfl, HG.out.1, HG.out.2.1, HGG.out⟩
                exact AllReadyH.nil
              exact AllReadyH.nil
            exact AllReadyH.nil
          exact AllReadyH.nil
        exact AllReadyH.nil
      refine AllReadyH.cons (by simp only [List.getElem?_toArray, List.getElem?_cons_succ, List.getElem?_cons_zero]; first | done | rfl) (fun K hK => ?_) ?_
      · skip
        refine step_value rfl (run_alloc_op rfl (run_alloc_pr _)) ?_
        try dsimp only
        obtain ⟨g6, hg6⟩ : ∃ g6, g6 = W.heap.size := ⟨_, rfl⟩
        try rw [show W.drew.heap.size = W.heap.size from rfl]
        rw [← hg6]
        refine k_world (fun W' => PA g6 zeroP W' ∧ RpI w W' g (ust b 2) ∧ EA g5 (lmpOut 32 b 0) (nearF (ust b 0).num) (ust b 1).num W' ∧ g < g6 ∧ g5 < g6) ⟨(by rw [hg6]; first | exact PA.new zeroP _ | exact (PA.new zeroP _).drew), (by repeat (first | exact HI.out | apply RpI.drew | apply RpI.drewN | apply RpI.alloc)), (by repeat (first | exact HE.out | apply EA.drew | apply EA.drewN | apply EA.alloc)), (by rw [hg6]; exact RpI.glt (by repeat (first | exact HI.out | apply RpI.drew | apply RpI.drewN | apply RpI.alloc))), (by rw [hg6]; exact EA.lt (by repeat (first | exact HE.out | apply EA.drew | apply EA.drewN | apply EA.alloc)))⟩ ?_
        rintro v2 ⟨hp, hi, he, hgg, hne⟩
        have HP := Lib.hid hp
        have HGG := Lib.hid hgg
        have HNE := Lib.hid hne
        clear HI HE
        have HI := Lib.hid hi
        have HE := Lib.hid he
        clear hp hi he hgg hne hg6
        refine hK.out _ _ ?_ (fun hHeld => ?_)
        · (try dsimp only); (first | done | (repeat (first | exact HE.out | apply EA.drew | apply EA.drewN | apply EA.alloc)))
        clear hK K
        try simp only [Act.put, List.setIfInBounds_toArray, List.set_cons_zero, List.set_cons_succ]
        refine wpAnyH_ready (rs := [2]) (by kernel_rfl) (by simp) ?_
        refine AllReadyH.cons (by simp only [List.getElem?_toArray, List.getElem?_cons_succ, List.getElem?_cons_zero]; first | done | rfl) (fun K hK => ?_) ?_
        · skip
          refine step_call rfl (num_u g b 2 _ (RpI.rdr (by repeat (first | exact HI.out | apply RpI.drew | apply RpI.drewN | apply RpI.alloc))) hl) (by go_simp; all_goals first | rfl | (simp only [IntKind.wrap_u64]; rfl)) ?_
          rintro e v2 ⟨rfl, hr, hg⟩
          refine ⟨_, rfl, ?_⟩
          have HI' := Lib.hid (RpI.read (z' := ust b 3) (by repeat (first | exact HI.out | apply RpI.drew | apply RpI.drewN | apply RpI.alloc)) hr hg)
          have HE' := Lib.hid (EA.grown (by repeat (first | exact HE.out | apply EA.drew | apply EA.drewN | apply EA.alloc)) hg (fun e => by have := HGE.out; simp at e; omega))
          have HP' := Lib.hid (PA.grown (by repeat (first | exact HP.out | apply PA.drew | apply PA.drewN | apply PA.alloc)) hg (fun e => by have := HGG.out; simp at e; omega))
          clear hr hg
          clear HI HE HP
          have HI := HI'
          have HE := HE'
          have HP := HP'
          clear HI' HE' HP'
          refine hK.out _ _ ?_ (fun hHeld => ?_)
          · (try dsimp only); (first | done | (repeat (first | exact HE.out | apply EA.drew | apply EA.drewN | apply EA.alloc)))
          clear hK K
          try simp only [Act.put, List.setIfInBounds_toArray, List.set_cons_zero, List.set_cons_succ]
          refine wpAnyH_ready (rs := [3]) (by kernel_rfl) (by simp) ?_
          refine AllReadyH.cons (by simp only [List.getElem?_toArray, List.getElem?_cons_succ, List.getElem?_cons_zero]; first | done | rfl) (fun K hK => ?_) ?_
          · skip
            refine step_call rfl (nearP_any (ust b 2).num _ (RS.num_bd _).1 (RS.num_bd _).2) (by go_simp; all_goals first | rfl | (simp only [IntKind.wrap_u64]; rfl)) ?_
            rintro e _ ⟨rfl, rfl⟩
            refine ⟨_, rfl, ?_⟩
            refine hK.out _ _ ?_ (fun hHeld => ?_)
            · (try dsimp only); (first | done | (repeat (first | exact HE.out | apply EA.drew | apply EA.drewN | apply EA.alloc)))
            clear hK K
            try simp only [Act.put, List.setIfInBounds_toArray, List.set_cons_zero, List.set_cons_succ]
            refine wpAnyH_ready (rs := [5]) (by kernel_rfl) (by simp) ?_
            refine AllReadyH.cons (by simp only [List.getElem?_toArray, List.getElem?_cons_succ, List.getElem?_cons_zero]; first | done | rfl) (fun K hK => ?_) ?_
            · skip
              refine step_call rfl (num_u g b 3 _ (RpI.rdr (by repeat (first | exact HI.out | apply RpI.drew | apply RpI.drewN | apply RpI.alloc))) hl) (by go_simp; all_goals first | rfl | (simp only [IntKind.wrap_u64]; rfl)) ?_
              rintro e v2 ⟨rfl, hr, hg⟩
              refine ⟨_, rfl, ?_⟩
              have HI' := Lib.hid (RpI.read (z' := ust b 4) (by repeat (first | exact HI.out | apply RpI.drew | apply RpI.drewN | apply RpI.alloc)) hr hg)
              have HE' := Lib.hid (EA.grown (by repeat (first | exact HE.out | apply EA.drew | apply EA.drewN | apply EA.alloc)) hg (fun e => by have := HGE.out; simp at e; omega))
              have HP' := Lib.hid (PA.grown (by repeat (first | exact HP.out | apply PA.drew | apply PA.drewN | apply PA.alloc)) hg (fun e => by have := HGG.out; simp at e; omega))
              clear hr hg
              clear HI HE HP
              have HI := HI'
              have HE := HE'
              have HP := HP'
              clear HI' HE' HP'
              refine hK.out _ _ ?_ (fun hHeld => ?_)
              · (try dsimp only); (first | done | (repeat (first | exact HE.out | apply EA.drew | apply EA.drewN | apply EA.alloc)))
              clear hK K
              try simp only [Act.put, List.setIfInBounds_toArray, List.set_cons_zero, List.set_cons_succ]
              refine wpAnyH_ready (rs := [6]) (by kernel_rfl) (by simp) ?_
              refine AllReadyH.cons (by simp only [List.getElem?_toArray, List.getElem?_cons_succ, List.getElem?_cons_zero]; first | done | rfl) (fun K hK => ?_) ?_
              · skip
                refine step_call rfl (nearP_any (ust b 3).num _ (RS.num_bd _).1 (RS.num_bd _).2) (by go_simp; all_goals first | rfl | (simp only [IntKind.wrap_u64]; rfl)) ?_
                rintro e _ ⟨rfl, rfl⟩
                refine ⟨_, rfl, ?_⟩
                refine hK.out _ _ ?_ (fun hHeld => ?_)
                · (try dsimp only); (first | done | (repeat (first | exact HE.out | apply EA.drew | apply EA.drewN | apply EA.alloc)))
                clear hK K
                try simp only [Act.put, List.setIfInBounds_toArray, List.set_cons_zero, List.set_cons_succ]
                refine wpAnyH_take (i := 7) (by simp only [List.getElem?_toArray, List.getElem?_cons_succ, List.getElem?_cons_zero]; first | done | rfl) (by kernel_rfl) (by kernel_rfl) (by kernel_rfl) (fun _ _ _ h => h) (yields_build_pr (by rfl) rfl (by simp only [List.map_toArray, List.map_cons, List.map_nil]; rfl) (built_pr3 (lmpOut 32 b 0) (nearF (ust b 0).num) (ust b 1).num _ _)) (by assumption) ?_
                try simp only [Act.put, List.setIfInBounds_toArray, List.set_cons_zero, List.set_cons_succ]
                refine wpAnyH_ready (rs := [9]) (by kernel_rfl) (by simp) ?_
                refine AllReadyH.cons (by simp only [List.getElem?_toArray, List.getElem?_cons_succ, List.getElem?_cons_zero]; first | done | rfl) (fun K hK => ?_) ?_
                · skip
                  refine step_store_pr rfl (.tmp 6) (.tmp 42) rfl g6 (preP b) rfl rfl zeroP (by repeat (first | exact HP.out | apply PA.drew | apply PA.drewN | apply PA.alloc)) ?_
                  intro v2 hv2
                  have HG := Lib.hid (show RpI w v2 g (ust b 4) ∧ PA g6 (preP b) v2 ∧ EA g5 (lmpOut 32 b 0) (nearF (ust b 0).num) (ust b 1).num v2 from ⟨by rw [hv2]; exact RpI.setRow (by repeat (first | exact HI.out | apply RpI.drew | apply RpI.drewN | apply RpI.alloc)) HGG.out _, by rw [hv2]; exact ⟨setRow_heap _ _ _ _ _ _ (PA.row (by repeat (first | exact HP.out | apply PA.drew | apply PA.drewN | apply PA.alloc)))⟩, by rw [hv2]; exact ⟨by rw [setRow_other _ _ _ _ (by have := HNE.out; omega)]; exact EA.row (by repeat (first | exact HE.out | apply EA.drew | apply EA.drewN | apply EA.alloc))⟩⟩)
                  clear hv2
                  clear HE
                  have HE := Lib.hid HG.out.2.2
                  refine hK.out _ _ ?_ (fun hHeld => ?_)
                  · (try dsimp only); (first | done | (repeat (first | exact HE.out | apply EA.drew | apply EA.drewN | apply EA.alloc)))
                  clear hK K
                  try simp only [Act.put, List.setIfInBounds_toArray, List.set_cons_zero, List.set_cons_succ]
                  refine wpAnyH_done (by kernel_rfl) ?_ _
                  refine NoPanic.normal ?_
                  go_wp2_with fail
                  go_meet
                  exact ⟨g6, rfl, HG.out.1, HG.out.2.1, HGG.out⟩
                exact AllReadyH.nil
              exact AllReadyH.nil
            exact AllReadyH.nil
          exact AllReadyH.nil
        exact AllReadyH.nil
      exact AllReadyH.nil
    case rest =>
      obtain ⟨g6, rfl, hi, hp, hgg⟩ := hcut
      clear HI HE HGE
      have HI := Lib.hid hi
      have HP := Lib.hid hp
      have HGG := Lib.hid hgg
      clear hi hp hgg
      go_wp2_with fail
      refine (num_u g b 4 _ HI.out.rdr hl).mono ?_
      rintro e w3 ⟨rfl, hr, hg⟩
      have HI3 := Lib.hid (HI.out.read (z' := ust b 5) hr hg)
      have HP3 := Lib.hid (HP.out.grown hg (fun e => by have := HGG.out; simp at e; omega))
      clear hr hg
      go_wp2_with fail
      refine (num_u g b 5 _ HI3.out.rdr hl).mono ?_
      rintro e w4 ⟨rfl, hr, hg⟩
      have HI4 := Lib.hid (HI3.out.read (z' := ust b 6) hr hg)
      have HP4 := Lib.hid (HP3.out.grown hg (fun e => by have := HGG.out; simp at e; omega))
      clear hr hg
      have c5 := HP4.out.c5
      have c6 := HP4.out.c6
      have f5 := frozen_of_row _ _ 5 _ _ HP4.out.row
      have f6 := frozen_of_row _ _ 6 _ _ HP4.out.row
      go_upto_region 11 with fail
      refine wp_world (fun Z => RpI w Z g (ust b 6) ∧ PA g6 (parseP nearF b) Z) ⟨(HI4.out.setCell HGG.out _).setCell HGG.out _, by have h := HP4.out.setSig (ust b 4).num (ust b 5).num; rw [preP_sig] at h; exact h⟩ ?_
      rintro Z ⟨hI, hG⟩
      have HI5 := Lib.hid hI
      have HP5 := Lib.hid hG
      clear hI hG c5 c6 f5 f6
      generalize parseP nearF b = P at *
      go_wp2_with fail
      refine (err_any g _ _ _ HI5.out.rdr).mono ?_
      rintro e _ ⟨rfl, rfl⟩
      by_cases hx : (ust b 6).x = 0
      case neg =>
        have hrd := HRD.out
        rw [if_neg hx] at hrd
        have HEE := Lib.hid hrd
        clear hrd
        have hx1 : ((ust b 6).x != 0) = true := by simpa using hx
        go_upto_region 12 with fail
        go_wp2_with (refine wpList_built rfl 31 #[] rfl [] (by simp) zeroP.cells.toArray built_pr0 ?_)
        refine (err_any g _ _ _ HI5.out.rdr).mono ?_
        rintro e _ ⟨rfl, rfl⟩
        go_wp2_with (refine wpList_store_row rfl 31 (.tmp 2) (.tmp 53) rfl w.heap.size zeroP.cells.toArray rfl rfl 31 _ HI5.out.res.row (pr_size _) rfl (all_oneCell_toArray zeroP.cells_one) ?_)
        exact bodyPost_ret (v := .tuple #[prV zeroP, .int .i64 (ust b 6).x]) (results_row_tmp (p := 2) (u := 3) rfl _ _ w.heap.size zeroP.cells.toArray rfl (pr_loads ⟨setRow_heap _ _ _ _ _ _ HI5.out.res.row⟩)) rfl ⟨by rw [HEE.out], below_setRow HI5.out.bel (Nat.le_refl _)⟩
      have hx1 : ((ust b 6).x != 0) = false := by rw [hx]; rfl
      have hrd := HRD.out
      rw [if_pos hx] at hrd
      clear hx
      go_wp2_with fail
      refine (left_any g _ _ _ HI5.out.rdr).mono ?_
      rintro e _ ⟨rfl, rfl⟩
      by_cases hy : 0 < (ust b 6).l.length
      · rw [if_pos hy] at hrd
        have HEE := Lib.hid hrd
        clear hrd
        have hy' : (0 : Int) < ((ust b 6).l.length : Int) := by omega
        go_upto_region 14 with fail
        refine wp_region_lit ?_
        refine wpList_built rfl 31 #[] rfl [] (by simp) zeroP.cells.toArray built_pr0 ?_
        refine wpList_store_row rfl 31 (.tmp 2) (.tmp 60) rfl w.heap.size zeroP.cells.toArray rfl rfl 31 _ HI5.out.res.row (pr_size _) rfl (all_oneCell_toArray zeroP.cells_one) ?_
        go_wp2_with fail
        exact bodyPost_ret (v := .tuple #[prV zeroP, .int .i64 20]) (results_row_tmp (p := 2) (u := 3) rfl _ _ w.heap.size zeroP.cells.toArray rfl (pr_loads ⟨setRow_heap _ _ _ _ _ _ HI5.out.res.row⟩)) rfl ⟨by rw [HEE.out], below_setRow HI5.out.bel (Nat.le_refl _)⟩
      rw [if_neg hy] at hrd
      have hy' : ¬ ((0 : Int) < ((ust b 6).l.length : Int)) := by omega
      have HRD2 := Lib.hid hrd
      clear hrd HRD hy
      go_upto_region 15 with fail
      refine wp_region_lit ?_
      refine wpList_load_row rfl 31 (.tmp 6) rfl g6 rfl 31 _ (0, 0) _ HP5.out.row Try.underlying31 rfl (pr_size _) ?_
      go_wp2_with fail
      refine (rightP_any P _).mono ?_
      rintro e w9 ⟨rfl, hb9⟩
      have HI9 := Lib.hid (HI5.out.below hb9)
      have HP9 := Lib.hid (HP5.out.below hb9)
      clear hb9
      cases hr : rightP P with
      | false =>
        have he : readP (byt 80 :: b) = (zeroP, 23) := by rw [HRD2.out, hr]; rfl
        have HEE := Lib.hid he
        clear he hr
        go_upto_region 16 with fail
        refine wp_region_lit ?_
        refine wpList_built rfl 31 #[] rfl [] (by simp) zeroP.cells.toArray built_pr0 ?_
        refine wpList_store_row rfl 31 (.tmp 2) (.tmp 65) rfl w.heap.size zeroP.cells.toArray rfl rfl 31 _ HI9.out.res.row (pr_size _) rfl (all_oneCell_toArray zeroP.cells_one) ?_
        go_wp2_with fail
        exact bodyPost_ret (v := .tuple #[prV zeroP, .int .i64 23]) (results_row_tmp (p := 2) (u := 3) rfl _ _ w.heap.size zeroP.cells.toArray rfl (pr_loads ⟨setRow_heap _ _ _ _ _ _ HI9.out.res.row⟩)) rfl ⟨by rw [HEE.out], below_setRow HI9.out.bel (Nat.le_refl _)⟩
      | true =>
        have he : readP (byt 80 :: b) = (P, 0) := by rw [HRD2.out, hr]; rfl
        have HEE := Lib.hid he
        clear he hr
        go_upto_region 17 with fail
        refine wp_region_lit ?_
        refine wpList_load_row rfl 31 (.tmp 6) rfl g6 rfl 31 _ (0, 0) _ HP9.out.row Try.underlying31 rfl (pr_size _) ?_
        refine wpList_store_row rfl 31 (.tmp 2) (.tmp 66) rfl w.heap.size P.cells.toArray rfl rfl 31 _ HI9.out.res.row (pr_size _) rfl (all_oneCell_toArray P.cells_one) ?_
        go_wp2_with fail
        exact bodyPost_ret (v := .tuple #[prV P, .int .i64 0]) (results_row_tmp (p := 2) (u := 3) rfl _ _ w.heap.size P.cells.toArray rfl (pr_loads ⟨setRow_heap _ _ _ _ _ _ HI9.out.res.row⟩)) rfl ⟨by rw [HEE.out], below_setRow HI9.out.bel (Nat.le_refl _)⟩
end Go.Proofs.Ytbhkcgnlegmjlaa
