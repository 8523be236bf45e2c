/-
  Requests: Read, the program's.
-/
import Derived.Test.YtjfkkcoapeipbaaUpC
namespace Go.Proofs.Ytjfkkcoapeipbaa
set_option linter.unusedVariables false
set_option linter.unusedSimpArgs false
open Go.RowKit
attribute [local irreducible] ust lmpOut parseU RS.num rightU nearV

set_option maxRecDepth 100000 in
set_option maxHeartbeats 3200000 in
theorem readU_any (v : Value) (b : List UInt8) (w : World) (hv : Rd w v b) (hl : b.length ≤ 1099511627776) : Calls Try.prog 11 #[v] w (GivesReadU w b) := by
  obtain ⟨p, c, rfl⟩ := hv.shape
  have HV := Lib.hid hv
  clear hv
  unfold GivesReadU
  by_cases h1 : 512 < b.length
  · have he : readU b = (zeroU, 22) := by unfold readU; rw [if_pos h1]
    rw [he]; clear he
    have h1' : (512 : Int) < (b.length : Int) := by omega
    go_enter Try.func11, Try.ntmps11
    go_upto_region 1 with fail
    rw [up_zero]
    refine wp_world (fun W => UA w.heap.size zeroU W ∧ Below w.heap.size w W) ⟨UA.new zeroU w, bl_alloc (Below.refl _ _) _⟩ ?_
    rintro W ⟨hA, hB⟩
    have HH := Lib.hid hA
    have HB := Lib.hid hB
    clear hA hB
    go_upto_region 2 with fail
    refine wp_region_lit ?_
    refine wpList_built rfl 30 #[] rfl [] (by simp) zeroU.cells.toArray built_up0 ?_
    refine wpList_store_row rfl 30 (.tmp 2) (.tmp 9) rfl w.heap.size zeroU.cells.toArray rfl rfl 30 _ HH.out.row (up_size _) rfl (all_oneCell_toArray zeroU.cells_one) ?_
    go_wp2_with fail
    exact bodyPost_ret (v := .tuple #[upV zeroU, .int .i64 22]) (results_row_tmp (p := 2) (u := 3) rfl _ _ w.heap.size zeroU.cells.toArray rfl (up_loads ⟨setRow_heap _ _ _ _ _ _ HH.out.row⟩)) rfl ⟨rfl, below_setRow HB.out (Nat.le_refl _)⟩
  have h1' : ¬ ((512 : Int) < (b.length : Int)) := by omega
  have hrd : readU b = if (ust b 5).x = 0 then (if 0 < (ust b 5).l.length then (zeroU, 20) else if rightU (parseU nearV b) then (parseU nearV b, 0) else (zeroU, 23)) else (zeroU, (ust b 5).x) := by
    unfold readU; rw [if_neg h1]
  have HRD := Lib.hid hrd
  clear hrd
  go_enter Try.func11, Try.ntmps11
  go_upto_region 1 with fail
  rw [up_zero]
  refine wp_world (fun W => UA w.heap.size zeroU W ∧ Below w.heap.size w W) ⟨UA.new zeroU w, bl_alloc (Below.refl _ _) _⟩ ?_
  rintro W ⟨hA, hB⟩
  have HH := Lib.hid hA
  have HB := Lib.hid hB
  clear hA hB
  go_wp2_with fail
  refine (new_any _ b _ (HV.out.below HB.out) hl).mono ?_
  rintro e w1 ⟨g, rfl, hg, hr, hb⟩
  have HI := Lib.hid (show RdI w w1 g ⟨b, 0⟩ from ⟨HH.out.below hb, bl_bl HB.out hb, hr, Nat.lt_of_lt_of_le HH.out.lt hg⟩)
  clear hg hr hb HH HB HV
  obtain ⟨W2, hW2⟩ : ∃ W2, W2 = w1 := ⟨_, rfl⟩
  rw [← hW2] at HI ⊢
  clear hW2 W
  obtain ⟨W, rfl⟩ : ∃ W, W = W2 := ⟨_, rfl⟩
  go_upto_region 4 with fail
  go_cut [5] (fun s5 wx => ∃ g5, s5 = .pointer (some ⟨g5, 0, none⟩) ∧ RdI w wx g (ust b 3) ∧ UA g5 (preU b) wx ∧ g < g5)
  case first =>
    refine wp_region_noPanic ?_
    refine wp_region_held_drew (S := (fun _ => True)) (by kernel_rfl) ?_ (fun hHeld => ?_)
    · (try dsimp only); (first | done | trivial)
    refine wpAnyH_take (i := 0) (v := ?_) (by simp only [List.getElem?_toArray, List.getElem?_cons_succ, List.getElem?_cons_zero]; first | done | rfl) (by kernel_rfl) (by kernel_rfl) (by kernel_rfl) (fun _ _ _ h => h) (Or.inl ⟨by rfl, ?hy⟩) (by assumption) ?_
    case hy => (intro w hSw; (try dsimp only at hSw); go_simp; all_goals with_reducible rfl)
    try simp only [Act.put, List.setIfInBounds_toArray, List.set_cons_zero, List.set_cons_succ]
    refine wpAnyH_take (i := 3) (v := ?_) (by simp only [List.getElem?_toArray, List.getElem?_cons_succ, List.getElem?_cons_zero]; first | done | rfl) (by kernel_rfl) (by kernel_rfl) (by kernel_rfl) (fun _ _ _ h => h) (Or.inl ⟨by rfl, ?hy⟩) (by assumption) ?_
    case hy => (intro w hSw; (try dsimp only at hSw); go_simp; all_goals with_reducible rfl)
    try simp only [Act.put, List.setIfInBounds_toArray, List.set_cons_zero, List.set_cons_succ]
    refine wpAnyH_take (i := 6) (v := ?_) (by simp only [List.getElem?_toArray, List.getElem?_cons_succ, List.getElem?_cons_zero]; first | done | rfl) (by kernel_rfl) (by kernel_rfl) (by kernel_rfl) (fun _ _ _ h => h) (Or.inl ⟨by rfl, ?hy⟩) (by assumption) ?_
    case hy => (intro w hSw; (try dsimp only at hSw); go_simp; all_goals with_reducible rfl)
    try simp only [Act.put, List.setIfInBounds_toArray, List.set_cons_zero, List.set_cons_succ]
    refine wpAnyH_take (i := 8) (v := ?_) (by simp only [List.getElem?_toArray, List.getElem?_cons_succ, List.getElem?_cons_zero]; first | done | rfl) (by kernel_rfl) (by kernel_rfl) (by kernel_rfl) (fun _ _ _ h => h) (Or.inl ⟨by rfl, ?hy⟩) (by assumption) ?_
    case hy => (intro w hSw; (try dsimp only at hSw); go_simp; all_goals with_reducible rfl)
    try simp only [Act.put, List.setIfInBounds_toArray, List.set_cons_zero, List.set_cons_succ]
    refine wpAnyH_ready (rs := [1, 12]) (by kernel_rfl) (by simp) ?_
    refine AllReadyH.cons (by simp only [List.getElem?_toArray, List.getElem?_cons_succ, List.getElem?_cons_zero]; first | done | rfl) (fun K hK => ?_) ?_
    · skip
      refine step_call rfl (lump_u g b _ (RdI.rdr (by repeat (first | exact HI.out | apply RdI.drew | apply RdI.drewN | apply RdI.alloc))) hl) (by go_simp) ?_
      rintro e v2 ⟨u2, rfl, ho, hr, hg⟩
      refine ⟨_, rfl, ?_⟩
      obtain ⟨b2, c2, rfl⟩ := ho.rd.shape
      have HI' := Lib.hid (RdI.read (z' := ust b 0) (by repeat (first | exact HI.out | apply RdI.drew | apply RdI.drewN | apply RdI.alloc)) hr hg)
      have HO := Lib.hid (ho.mono (B' := g + 1) (RdI.glt (by repeat (first | exact HI.out | apply RdI.drew | apply RdI.drewN | apply RdI.alloc))))
      clear ho
      clear hr hg
      have HI := HI'
      clear HI'
      refine hK.out _ _ ?_ (fun hHeld => ?_)
      · (try dsimp only); (first | done | trivial)
      clear hK K
      try simp only [Act.put, List.setIfInBounds_toArray, List.set_cons_zero, List.set_cons_succ]
      refine wpAnyH_ready (rs := [2, 4, 12]) (by kernel_rfl) (by simp) ?_
      refine AllReadyH.cons (by simp only [List.getElem?_toArray, List.getElem?_cons_succ, List.getElem?_cons_zero]; first | done | rfl) (fun K hK => ?_) ?_
      · skip
        refine step_conv_bs rfl (.tmp 13) rfl rfl (Own.rd (by repeat (first | exact HO.out | apply own_drew | apply own_drewN' | apply Own.alloc))) ?_
        refine hK.out _ _ ?_ (fun hHeld => ?_)
        · (try dsimp only); (first | done | trivial)
        clear hK K
        try simp only [Act.put, List.setIfInBounds_toArray, List.set_cons_zero, List.set_cons_succ]
        refine wpAnyH_ready (rs := [4, 12]) (by kernel_rfl) (by simp) ?_
        refine AllReadyH.cons (by simp only [List.getElem?_toArray, List.getElem?_cons_succ, List.getElem?_cons_zero]; first | done | rfl) (fun K hK => ?_) ?_
        · skip
          refine step_call rfl (num_u g b 0 _ (RdI.rdr (by repeat (first | exact HI.out | apply RdI.drew | apply RdI.drewN | apply RdI.alloc))) hl) (by go_simp) ?_
          rintro e v2 ⟨rfl, hr, hg⟩
          refine ⟨_, rfl, ?_⟩
          have HI' := Lib.hid (RdI.read (z' := ust b 1) (by repeat (first | exact HI.out | apply RdI.drew | apply RdI.drewN | apply RdI.alloc)) hr hg)
          clear hr hg
          have HI := HI'
          clear HI'
          refine hK.out _ _ ?_ (fun hHeld => ?_)
          · (try dsimp only); (first | done | trivial)
          clear hK K
          try simp only [Act.put, List.setIfInBounds_toArray, List.set_cons_zero, List.set_cons_succ]
          refine wpAnyH_ready (rs := [5, 12]) (by kernel_rfl) (by simp) ?_
          refine AllReadyH.cons (by simp only [List.getElem?_toArray, List.getElem?_cons_succ, List.getElem?_cons_zero]; first | done | rfl) (fun K hK => ?_) ?_
          · skip
            refine step_call rfl (nearU_any (ust b 0).num _ (RS.num_bd _).1 (RS.num_bd _).2) (by go_simp) ?_
            rintro e _ ⟨rfl, rfl⟩
            refine ⟨_, rfl, ?_⟩
            refine hK.out _ _ ?_ (fun hHeld => ?_)
            · (try dsimp only); (first | done | trivial)
            clear hK K
            try simp only [Act.put, List.setIfInBounds_toArray, List.set_cons_zero, List.set_cons_succ]
            refine wpAnyH_ready (rs := [7, 12]) (by kernel_rfl) (by simp) ?_
            refine AllReadyH.cons (by simp only [List.getElem?_toArray, List.getElem?_cons_succ, List.getElem?_cons_zero]; first | done | rfl) (fun K hK => ?_) ?_
            · skip
              refine step_call rfl (num_u g b 1 _ (RdI.rdr (by repeat (first | exact HI.out | apply RdI.drew | apply RdI.drewN | apply RdI.alloc))) hl) (by go_simp) ?_
              rintro e v2 ⟨rfl, hr, hg⟩
              refine ⟨_, rfl, ?_⟩
              have HI' := Lib.hid (RdI.read (z' := ust b 2) (by repeat (first | exact HI.out | apply RdI.drew | apply RdI.drewN | apply RdI.alloc)) hr hg)
              clear hr hg
              have HI := HI'
              clear HI'
              refine hK.out _ _ ?_ (fun hHeld => ?_)
              · (try dsimp only); (first | done | trivial)
              clear hK K
              try simp only [Act.put, List.setIfInBounds_toArray, List.set_cons_zero, List.set_cons_succ]
              refine wpAnyH_ready (rs := [9, 12]) (by kernel_rfl) (by simp) ?_
              refine AllReadyH.cons (by simp only [List.getElem?_toArray, List.getElem?_cons_succ, List.getElem?_cons_zero]; first | done | rfl) (fun K hK => ?_) ?_
              · skip
                refine step_call rfl (num_u g b 2 _ (RdI.rdr (by repeat (first | exact HI.out | apply RdI.drew | apply RdI.drewN | apply RdI.alloc))) hl) (by go_simp) ?_
                rintro e v2 ⟨rfl, hr, hg⟩
                refine ⟨_, rfl, ?_⟩
                have HI' := Lib.hid (RdI.read (z' := ust b 3) (by repeat (first | exact HI.out | apply RdI.drew | apply RdI.drewN | apply RdI.alloc)) hr hg)
                clear hr hg
                have HI := HI'
                clear HI'
                refine hK.out _ _ ?_ (fun hHeld => ?_)
                · (try dsimp only); (first | done | trivial)
                clear hK K
                try simp only [Act.put, List.setIfInBounds_toArray, List.set_cons_zero, List.set_cons_succ]
                refine wpAnyH_ready (rs := [10, 12]) (by kernel_rfl) (by simp) ?_
                refine AllReadyH.cons (by simp only [List.getElem?_toArray, List.getElem?_cons_succ, List.getElem?_cons_zero]; first | done | rfl) (fun K hK => ?_) ?_
                · skip
                  refine step_call rfl (nearU_any (ust b 2).num _ (RS.num_bd _).1 (RS.num_bd _).2) (by go_simp) ?_
                  rintro e _ ⟨rfl, rfl⟩
                  refine ⟨_, rfl, ?_⟩
                  refine hK.out _ _ ?_ (fun hHeld => ?_)
                  · (try dsimp only); (first | done | trivial)
                  clear hK K
                  try simp only [Act.put, List.setIfInBounds_toArray, List.set_cons_zero, List.set_cons_succ]
                  refine wpAnyH_take (i := 11) (v := ?_) (by simp only [List.getElem?_toArray, List.getElem?_cons_succ, List.getElem?_cons_zero]; first | done | rfl) (by kernel_rfl) (by kernel_rfl) (by kernel_rfl) (fun _ _ _ h => h) (Or.inl ⟨by rfl, ?hy⟩) (by assumption) ?_
                  case hy => (intro w hSw; (try dsimp only at hSw); go_simp; all_goals with_reducible rfl)
                  try simp only [Act.put, List.setIfInBounds_toArray, List.set_cons_zero, List.set_cons_succ]
                  refine wpAnyH_ready (rs := [12]) (by kernel_rfl) (by simp) ?_
                  refine AllReadyH.cons (by simp only [List.getElem?_toArray, List.getElem?_cons_succ, List.getElem?_cons_zero]; first | done | rfl) (fun K hK => ?_) ?_
                  · skip
                    refine step_value rfl (run_alloc_op rfl (run_alloc_up _)) ?_
                    try dsimp only
                    obtain ⟨g5, hg5⟩ : ∃ g5, g5 = v2.heap.size := ⟨_, rfl⟩
                    try rw [show v2.drew.heap.size = v2.heap.size from rfl]
                    rw [← hg5]
                    refine k_world (fun W' => UA g5 zeroU W' ∧ RdI w W' g (ust b 3) ∧ g < g5) ⟨(by rw [hg5]; first | exact UA.new zeroU _ | exact (UA.new zeroU _).drew), (by repeat (first | exact HI.out | apply RdI.drew | apply RdI.drewN | apply RdI.alloc)), (by rw [hg5]; exact RdI.glt (by repeat (first | exact HI.out | apply RdI.drew | apply RdI.drewN | apply RdI.alloc)))⟩ ?_
                    rintro v2 ⟨hu, hi, hgg⟩
                    have HU := Lib.hid hu
                    have HGG := Lib.hid hgg
                    clear HI
                    have HI := Lib.hid hi
                    clear hu hi hgg hg5
                    refine hK.out _ _ ?_ (fun hHeld => ?_)
                    · (try dsimp only); (first | done | trivial)
                    clear hK K
                    try simp only [Act.put, List.setIfInBounds_toArray, List.set_cons_zero, List.set_cons_succ]
                    refine wpAnyH_ready (rs := [13]) (by kernel_rfl) (by simp) ?_
                    refine AllReadyH.cons (by simp only [List.getElem?_toArray, List.getElem?_cons_succ, List.getElem?_cons_zero]; first | done | rfl) (fun K hK => ?_) ?_
                    · skip
                      refine step_store_up rfl (.tmp 5) (.tmp 23) rfl g5 (preU b) rfl rfl zeroU (by repeat (first | exact HU.out | apply UA.drew | apply UA.drewN | apply UA.alloc)) ?_
                      intro v2 hv2
                      have HG := Lib.hid (show RdI w v2 g (ust b 3) ∧ UA g5 (preU b) v2 from ⟨by rw [hv2]; exact RdI.setRow (by repeat (first | exact HI.out | apply RdI.drew | apply RdI.drewN | apply RdI.alloc)) HGG.out _, by rw [hv2]; exact ⟨setRow_heap _ _ _ _ _ _ (UA.row (by repeat (first | exact HU.out | apply UA.drew | apply UA.drewN | apply UA.alloc)))⟩⟩)
                      clear hv2
                      refine hK.out _ _ ?_ (fun hHeld => ?_)
                      · (try dsimp only); (first | done | trivial)
                      clear hK K
                      try simp only [Act.put, List.setIfInBounds_toArray, List.set_cons_zero, List.set_cons_succ]
                      refine wpAnyH_done (by kernel_rfl) ?_ _
                      refine NoPanic.normal ?_
                      go_wp2_with fail
                      go_meet
                      exact ⟨g5, rfl, HG.out.1, HG.out.2, HGG.out⟩
                    exact AllReadyH.nil
                  exact AllReadyH.nil
                refine AllReadyH.cons (by simp only [List.getElem?_toArray, List.getElem?_cons_succ, List.getElem?_cons_zero]; first | done | rfl) (fun K hK => ?_) ?_
                · skip
                  refine step_value rfl (run_alloc_op rfl (run_alloc_up _)) ?_
                  try dsimp only
                  obtain ⟨g5, hg5⟩ : ∃ g5, g5 = v2.heap.size := ⟨_, rfl⟩
                  try rw [show v2.drew.heap.size = v2.heap.size from rfl]
                  rw [← hg5]
                  refine k_world (fun W' => UA g5 zeroU W' ∧ RdI w W' g (ust b 3) ∧ g < g5) ⟨(by rw [hg5]; first | exact UA.new zeroU _ | exact (UA.new zeroU _).drew), (by repeat (first | exact HI.out | apply RdI.drew | apply RdI.drewN | apply RdI.alloc)), (by rw [hg5]; exact RdI.glt (by repeat (first | exact HI.out | apply RdI.drew | apply RdI.drewN | apply RdI.alloc)))⟩ ?_
                  rintro v2 ⟨hu, hi, hgg⟩
                  have HU := Lib.hid hu
                  have HGG := Lib.hid hgg
                  clear HI
                  have HI := Lib.hid hi
                  clear hu hi hgg hg5
                  refine hK.out _ _ ?_ (fun hHeld => ?_)
                  · (try dsimp only); (first | done | trivial)
                  clear hK K
                  try simp only [Act.put, List.setIfInBounds_toArray, List.set_cons_zero, List.set_cons_succ]
                  refine wpAnyH_ready (rs := [10]) (by kernel_rfl) (by simp) ?_
                  refine AllReadyH.cons (by simp only [List.getElem?_toArray, List.getElem?_cons_succ, List.getElem?_cons_zero]; first | done | rfl) (fun K hK => ?_) ?_
                  · skip
                    refine step_call rfl (nearU_any (ust b 2).num _ (RS.num_bd _).1 (RS.num_bd _).2) (by go_simp) ?_
                    rintro e _ ⟨rfl, rfl⟩
                    refine ⟨_, rfl, ?_⟩
                    refine hK.out _ _ ?_ (fun hHeld => ?_)
                    · (try dsimp only); (first | done | trivial)
                    clear hK K
                    try simp only [Act.put, List.setIfInBounds_toArray, List.set_cons_zero, List.set_cons_succ]
                    refine wpAnyH_take (i := 11) (v := ?_) (by simp only [List.getElem?_toArray, List.getElem?_cons_succ, List.getElem?_cons_zero]; first | done | rfl) (by kernel_rfl) (by kernel_rfl) (by kernel_rfl) (fun _ _ _ h => h) (Or.inl ⟨by rfl, ?hy⟩) (by assumption) ?_
                    case hy => (intro w hSw; (try dsimp only at hSw); go_simp; all_goals with_reducible rfl)
                    try simp only [Act.put, List.setIfInBounds_toArray, List.set_cons_zero, List.set_cons_succ]
                    refine wpAnyH_ready (rs := [13]) (by kernel_rfl) (by simp) ?_
                    refine AllReadyH.cons (by simp only [List.getElem?_toArray, List.getElem?_cons_succ, List.getElem?_cons_zero]; first | done | rfl) (fun K hK => ?_) ?_
                    · skip
                      refine step_store_up rfl (.tmp 5) (.tmp 23) rfl g5 (preU b) rfl rfl zeroU (by repeat (first | exact HU.out | apply UA.drew | apply UA.drewN | apply UA.alloc)) ?_
                      intro v2 hv2
                      have HG := Lib.hid (show RdI w v2 g (ust b 3) ∧ UA g5 (preU b) v2 from ⟨by rw [hv2]; exact RdI.setRow (by repeat (first | exact HI.out | apply RdI.drew | apply RdI.drewN | apply RdI.alloc)) HGG.out _, by rw [hv2]; exact ⟨setRow_heap _ _ _ _ _ _ (UA.row (by repeat (first | exact HU.out | apply UA.drew | apply UA.drewN | apply UA.alloc)))⟩⟩)
                      clear hv2
                      refine hK.out _ _ ?_ (fun hHeld => ?_)
                      · (try dsimp only); (first | done | trivial)
                      clear hK K
                      try simp only [Act.put, List.setIfInBounds_toArray, List.set_cons_zero, List.set_cons_succ]
                      refine wpAnyH_done (by kernel_rfl) ?_ _
                      refine NoPanic.normal ?_
                      go_wp2_with fail
                      go_meet
                      exact ⟨g5, rfl, HG.out.1, HG.out.2, HGG.out⟩
                    exact AllReadyH.nil
                  exact AllReadyH.nil
                exact AllReadyH.nil
              refine AllReadyH.cons (by simp only [List.getElem?_toArray, List.getElem?_cons_succ, List.getElem?_cons_zero]; first | done | rfl) (fun K hK => ?_) ?_
              · skip
                refine step_value rfl (run_alloc_op rfl (run_alloc_up _)) ?_
                try dsimp only
                obtain ⟨g5, hg5⟩ : ∃ g5, g5 = v2.heap.size := ⟨_, rfl⟩
                try rw [show v2.drew.heap.size = v2.heap.size from rfl]
                rw [← hg5]
                refine k_world (fun W' => UA g5 zeroU W' ∧ RdI w W' g (ust b 2) ∧ g < g5) ⟨(by rw [hg5]; first | exact UA.new zeroU _ | exact (UA.new zeroU _).drew), (by repeat (first | exact HI.out | apply RdI.drew | apply RdI.drewN | apply RdI.alloc)), (by rw [hg5]; exact RdI.glt (by repeat (first | exact HI.out | apply RdI.drew | apply RdI.drewN | apply RdI.alloc)))⟩ ?_
                rintro v2 ⟨hu, hi, hgg⟩
                have HU := Lib.hid hu
                have HGG := Lib.hid hgg
                clear HI
                have HI := Lib.hid hi
                clear hu hi hgg hg5
                refine hK.out _ _ ?_ (fun hHeld => ?_)
                · (try dsimp only); (first | done | trivial)
                clear hK K
                try simp only [Act.put, List.setIfInBounds_toArray, List.set_cons_zero, List.set_cons_succ]
                refine wpAnyH_ready (rs := [9]) (by kernel_rfl) (by simp) ?_
                refine AllReadyH.cons (by simp only [List.getElem?_toArray, List.getElem?_cons_succ, List.getElem?_cons_zero]; first | done | rfl) (fun K hK => ?_) ?_
                · skip
                  refine step_call rfl (num_u g b 2 _ (RdI.rdr (by repeat (first | exact HI.out | apply RdI.drew | apply RdI.drewN | apply RdI.alloc))) hl) (by go_simp) ?_
                  rintro e v2 ⟨rfl, hr, hg⟩
                  refine ⟨_, rfl, ?_⟩
                  have HI' := Lib.hid (RdI.read (z' := ust b 3) (by repeat (first | exact HI.out | apply RdI.drew | apply RdI.drewN | apply RdI.alloc)) hr hg)
                  have HU' := Lib.hid (UA.grown (by repeat (first | exact HU.out | apply UA.drew | apply UA.drewN | apply UA.alloc)) hg (fun e => by have := HGG.out; simp at e; omega))
                  clear hr hg
                  have HI := HI'
                  have HU := HU'
                  clear HI' HU'
                  refine hK.out _ _ ?_ (fun hHeld => ?_)
                  · (try dsimp only); (first | done | trivial)
                  clear hK K
                  try simp only [Act.put, List.setIfInBounds_toArray, List.set_cons_zero, List.set_cons_succ]
                  refine wpAnyH_ready (rs := [10]) (by kernel_rfl) (by simp) ?_
                  refine AllReadyH.cons (by simp only [List.getElem?_toArray, List.getElem?_cons_succ, List.getElem?_cons_zero]; first | done | rfl) (fun K hK => ?_) ?_
                  · skip
                    refine step_call rfl (nearU_any (ust b 2).num _ (RS.num_bd _).1 (RS.num_bd _).2) (by go_simp) ?_
                    rintro e _ ⟨rfl, rfl⟩
                    refine ⟨_, rfl, ?_⟩
                    refine hK.out _ _ ?_ (fun hHeld => ?_)
                    · (try dsimp only); (first | done | trivial)
                    clear hK K
                    try simp only [Act.put, List.setIfInBounds_toArray, List.set_cons_zero, List.set_cons_succ]
                    refine wpAnyH_take (i := 11) (v := ?_) (by simp only [List.getElem?_toArray, List.getElem?_cons_succ, List.getElem?_cons_zero]; first | done | rfl) (by kernel_rfl) (by kernel_rfl) (by kernel_rfl) (fun _ _ _ h => h) (Or.inl ⟨by rfl, ?hy⟩) (by assumption) ?_
                    case hy => (intro w hSw; (try dsimp only at hSw); go_simp; all_goals with_reducible rfl)
                    try simp only [Act.put, List.setIfInBounds_toArray, List.set_cons_zero, List.set_cons_succ]
                    refine wpAnyH_ready (rs := [13]) (by kernel_rfl) (by simp) ?_
                    refine AllReadyH.cons (by simp only [List.getElem?_toArray, List.getElem?_cons_succ, List.getElem?_cons_zero]; first | done | rfl) (fun K hK => ?_) ?_
                    · skip
                      refine step_store_up rfl (.tmp 5) (.tmp 23) rfl g5 (preU b) rfl rfl zeroU (by repeat (first | exact HU.out | apply UA.drew | apply UA.drewN | apply UA.alloc)) ?_
                      intro v2 hv2
                      have HG := Lib.hid (show RdI w v2 g (ust b 3) ∧ UA g5 (preU b) v2 from ⟨by rw [hv2]; exact RdI.setRow (by repeat (first | exact HI.out | apply RdI.drew | apply RdI.drewN | apply RdI.alloc)) HGG.out _, by rw [hv2]; exact ⟨setRow_heap _ _ _ _ _ _ (UA.row (by repeat (first | exact HU.out | apply UA.drew | apply UA.drewN | apply UA.alloc)))⟩⟩)
                      clear hv2
                      refine hK.out _ _ ?_ (fun hHeld => ?_)
                      · (try dsimp only); (first | done | trivial)
                      clear hK K
                      try simp only [Act.put, List.setIfInBounds_toArray, List.set_cons_zero, List.set_cons_succ]
                      refine wpAnyH_done (by kernel_rfl) ?_ _
                      refine NoPanic.normal ?_
                      go_wp2_with fail
                      go_meet
                      exact ⟨g5, rfl, HG.out.1, HG.out.2, HGG.out⟩
                    exact AllReadyH.nil
                  exact AllReadyH.nil
                exact AllReadyH.nil
              exact AllReadyH.nil
            refine AllReadyH.cons (by simp only [List.getElem?_toArray, List.getElem?_cons_succ, List.getElem?_cons_zero]; first | done | rfl) (fun K hK => ?_) ?_
            · skip
              refine step_value rfl (run_alloc_op rfl (run_alloc_up _)) ?_
              try dsimp only
              obtain ⟨g5, hg5⟩ : ∃ g5, g5 = v2.heap.size := ⟨_, rfl⟩
              try rw [show v2.drew.heap.size = v2.heap.size from rfl]
              rw [← hg5]
              refine k_world (fun W' => UA g5 zeroU W' ∧ RdI w W' g (ust b 1) ∧ g < g5) ⟨(by rw [hg5]; first | exact UA.new zeroU _ | exact (UA.new zeroU _).drew), (by repeat (first | exact HI.out | apply RdI.drew | apply RdI.drewN | apply RdI.alloc)), (by rw [hg5]; exact RdI.glt (by repeat (first | exact HI.out | apply RdI.drew | apply RdI.drewN | apply RdI.alloc)))⟩ ?_
              rintro v2 ⟨hu, hi, hgg⟩
              have HU := Lib.hid hu
              have HGG := Lib.hid hgg
              clear HI
              have HI := Lib.hid hi
              clear hu hi hgg hg5
              refine hK.out _ _ ?_ (fun hHeld => ?_)
              · (try dsimp only); (first | done | trivial)
              clear hK K
              try simp only [Act.put, List.setIfInBounds_toArray, List.set_cons_zero, List.set_cons_succ]
              refine wpAnyH_ready (rs := [7]) (by kernel_rfl) (by simp) ?_
              refine AllReadyH.cons (by simp only [List.getElem?_toArray, List.getElem?_cons_succ, List.getElem?_cons_zero]; first | done | rfl) (fun K hK => ?_) ?_
              · skip
                refine step_call rfl (num_u g b 1 _ (RdI.rdr (by repeat (first | exact HI.out | apply RdI.drew | apply RdI.drewN | apply RdI.alloc))) hl) (by go_simp) ?_
                rintro e v2 ⟨rfl, hr, hg⟩
                refine ⟨_, rfl, ?_⟩
                have HI' := Lib.hid (RdI.read (z' := ust b 2) (by repeat (first | exact HI.out | apply RdI.drew | apply RdI.drewN | apply RdI.alloc)) hr hg)
                have HU' := Lib.hid (UA.grown (by repeat (first | exact HU.out | apply UA.drew | apply UA.drewN | apply UA.alloc)) hg (fun e => by have := HGG.out; simp at e; omega))
                clear hr hg
                have HI := HI'
                have HU := HU'
                clear HI' HU'
                refine hK.out _ _ ?_ (fun hHeld => ?_)
                · (try dsimp only); (first | done | trivial)
                clear hK K
                try simp only [Act.put, List.setIfInBounds_toArray, List.set_cons_zero, List.set_cons_succ]
                refine wpAnyH_ready (rs := [9]) (by kernel_rfl) (by simp) ?_
                refine AllReadyH.cons (by simp only [List.getElem?_toArray, List.getElem?_cons_succ, List.getElem?_cons_zero]; first | done | rfl) (fun K hK => ?_) ?_
                · skip
                  refine step_call rfl (num_u g b 2 _ (RdI.rdr (by repeat (first | exact HI.out | apply RdI.drew | apply RdI.drewN | apply RdI.alloc))) hl) (by go_simp) ?_
                  rintro e v2 ⟨rfl, hr, hg⟩
                  refine ⟨_, rfl, ?_⟩
                  have HI' := Lib.hid (RdI.read (z' := ust b 3) (by repeat (first | exact HI.out | apply RdI.drew | apply RdI.drewN | apply RdI.alloc)) hr hg)
                  have HU' := Lib.hid (UA.grown (by repeat (first | exact HU.out | apply UA.drew | apply UA.drewN | apply UA.alloc)) hg (fun e => by have := HGG.out; simp at e; omega))
                  clear hr hg
                  have HI := HI'
                  have HU := HU'
                  clear HI' HU'
                  refine hK.out _ _ ?_ (fun hHeld => ?_)
                  · (try dsimp only); (first | done | trivial)
                  clear hK K
                  try simp only [Act.put, List.setIfInBounds_toArray, List.set_cons_zero, List.set_cons_succ]
                  refine wpAnyH_ready (rs := [10]) (by kernel_rfl) (by simp) ?_
                  refine AllReadyH.cons (by simp only [List.getElem?_toArray, List.getElem?_cons_succ, List.getElem?_cons_zero]; first | done | rfl) (fun K hK => ?_) ?_
                  · skip
                    refine step_call rfl (nearU_any (ust b 2).num _ (RS.num_bd _).1 (RS.num_bd _).2) (by go_simp) ?_
                    rintro e _ ⟨rfl, rfl⟩
                    refine ⟨_, rfl, ?_⟩
                    refine hK.out _ _ ?_ (fun hHeld => ?_)
                    · (try dsimp only); (first | done | trivial)
                    clear hK K
                    try simp only [Act.put, List.setIfInBounds_toArray, List.set_cons_zero, List.set_cons_succ]
                    refine wpAnyH_take (i := 11) (v := ?_) (by simp only [List.getElem?_toArray, List.getElem?_cons_succ, List.getElem?_cons_zero]; first | done | rfl) (by kernel_rfl) (by kernel_rfl) (by kernel_rfl) (fun _ _ _ h => h) (Or.inl ⟨by rfl, ?hy⟩) (by assumption) ?_
                    case hy => (intro w hSw; (try dsimp only at hSw); go_simp; all_goals with_reducible rfl)
                    try simp only [Act.put, List.setIfInBounds_toArray, List.set_cons_zero, List.set_cons_succ]
                    refine wpAnyH_ready (rs := [13]) (by kernel_rfl) (by simp) ?_
                    refine AllReadyH.cons (by simp only [List.getElem?_toArray, List.getElem?_cons_succ, List.getElem?_cons_zero]; first | done | rfl) (fun K hK => ?_) ?_
                    · skip
                      refine step_store_up rfl (.tmp 5) (.tmp 23) rfl g5 (preU b) rfl rfl zeroU (by repeat (first | exact HU.out | apply UA.drew | apply UA.drewN | apply UA.alloc)) ?_
                      intro v2 hv2
                      have HG := Lib.hid (show RdI w v2 g (ust b 3) ∧ UA g5 (preU b) v2 from ⟨by rw [hv2]; exact RdI.setRow (by repeat (first | exact HI.out | apply RdI.drew | apply RdI.drewN | apply RdI.alloc)) HGG.out _, by rw [hv2]; exact ⟨setRow_heap _ _ _ _ _ _ (UA.row (by repeat (first | exact HU.out | apply UA.drew | apply UA.drewN | apply UA.alloc)))⟩⟩)
                      clear hv2
                      refine hK.out _ _ ?_ (fun hHeld => ?_)
                      · (try dsimp only); (first | done | trivial)
                      clear hK K
                      try simp only [Act.put, List.setIfInBounds_toArray, List.set_cons_zero, List.set_cons_succ]
                      refine wpAnyH_done (by kernel_rfl) ?_ _
                      refine NoPanic.normal ?_
                      go_wp2_with fail
                      go_meet
                      exact ⟨g5, rfl, HG.out.1, HG.out.2, HGG.out⟩
                    exact AllReadyH.nil
                  exact AllReadyH.nil
                exact AllReadyH.nil
              exact AllReadyH.nil
            exact AllReadyH.nil
          refine AllReadyH.cons (by simp only [List.getElem?_toArray, List.getElem?_cons_succ, List.getElem?_cons_zero]; first | done | rfl) (fun K hK => ?_) ?_
          · skip
            refine step_value rfl (run_alloc_op rfl (run_alloc_up _)) ?_
            try dsimp only
            obtain ⟨g5, hg5⟩ : ∃ g5, g5 = v2.heap.size := ⟨_, rfl⟩
            try rw [show v2.drew.heap.size = v2.heap.size from rfl]
            rw [← hg5]
            refine k_world (fun W' => UA g5 zeroU W' ∧ RdI w W' g (ust b 1) ∧ g < g5) ⟨(by rw [hg5]; first | exact UA.new zeroU _ | exact (UA.new zeroU _).drew), (by repeat (first | exact HI.out | apply RdI.drew | apply RdI.drewN | apply RdI.alloc)), (by rw [hg5]; exact RdI.glt (by repeat (first | exact HI.out | apply RdI.drew | apply RdI.drewN | apply RdI.alloc)))⟩ ?_
            rintro v2 ⟨hu, hi, hgg⟩
            have HU := Lib.hid hu
            have HGG := Lib.hid hgg
            clear HI
            have HI := Lib.hid hi
            clear hu hi hgg hg5
            refine hK.out _ _ ?_ (fun hHeld => ?_)
            · (try dsimp only); (first | done | trivial)
            clear hK K
            try simp only [Act.put, List.setIfInBounds_toArray, List.set_cons_zero, List.set_cons_succ]
            refine wpAnyH_ready (rs := [5]) (by kernel_rfl) (by simp) ?_
            refine AllReadyH.cons (by simp only [List.getElem?_toArray, List.getElem?_cons_succ, List.getElem?_cons_zero]; first | done | rfl) (fun K hK => ?_) ?_
            · skip
              refine step_call rfl (nearU_any (ust b 0).num _ (RS.num_bd _).1 (RS.num_bd _).2) (by go_simp) ?_
              rintro e _ ⟨rfl, rfl⟩
              refine ⟨_, rfl, ?_⟩
              refine hK.out _ _ ?_ (fun hHeld => ?_)
              · (try dsimp only); (first | done | trivial)
              clear hK K
              try simp only [Act.put, List.setIfInBounds_toArray, List.set_cons_zero, List.set_cons_succ]
              refine wpAnyH_ready (rs := [7]) (by kernel_rfl) (by simp) ?_
              refine AllReadyH.cons (by simp only [List.getElem?_toArray, List.getElem?_cons_succ, List.getElem?_cons_zero]; first | done | rfl) (fun K hK => ?_) ?_
              · skip
                refine step_call rfl (num_u g b 1 _ (RdI.rdr (by repeat (first | exact HI.out | apply RdI.drew | apply RdI.drewN | apply RdI.alloc))) hl) (by go_simp) ?_
                rintro e v2 ⟨rfl, hr, hg⟩
                refine ⟨_, rfl, ?_⟩
                have HI' := Lib.hid (RdI.read (z' := ust b 2) (by repeat (first | exact HI.out | apply RdI.drew | apply RdI.drewN | apply RdI.alloc)) hr hg)
                have HU' := Lib.hid (UA.grown (by repeat (first | exact HU.out | apply UA.drew | apply UA.drewN | apply UA.alloc)) hg (fun e => by have := HGG.out; simp at e; omega))
                clear hr hg
                have HI := HI'
                have HU := HU'
                clear HI' HU'
                refine hK.out _ _ ?_ (fun hHeld => ?_)
                · (try dsimp only); (first | done | trivial)
                clear hK K
                try simp only [Act.put, List.setIfInBounds_toArray, List.set_cons_zero, List.set_cons_succ]
                refine wpAnyH_ready (rs := [9]) (by kernel_rfl) (by simp) ?_
                refine AllReadyH.cons (by simp only [List.getElem?_toArray, List.getElem?_cons_succ, List.getElem?_cons_zero]; first | done | rfl) (fun K hK => ?_) ?_
                · skip
                  refine step_call rfl (num_u g b 2 _ (RdI.rdr (by repeat (first | exact HI.out | apply RdI.drew | apply RdI.drewN | apply RdI.alloc))) hl) (by go_simp) ?_
                  rintro e v2 ⟨rfl, hr, hg⟩
                  refine ⟨_, rfl, ?_⟩
                  have HI' := Lib.hid (RdI.read (z' := ust b 3) (by repeat (first | exact HI.out | apply RdI.drew | apply RdI.drewN | apply RdI.alloc)) hr hg)
                  have HU' := Lib.hid (UA.grown (by repeat (first | exact HU.out | apply UA.drew | apply UA.drewN | apply UA.alloc)) hg (fun e => by have := HGG.out; simp at e; omega))
                  clear hr hg
                  have HI := HI'
                  have HU := HU'
                  clear HI' HU'
                  refine hK.out _ _ ?_ (fun hHeld => ?_)
                  · (try dsimp only); (first | done | trivial)
                  clear hK K
                  try simp only [Act.put, List.setIfInBounds_toArray, List.set_cons_zero, List.set_cons_succ]
                  refine wpAnyH_ready (rs := [10]) (by kernel_rfl) (by simp) ?_
                  refine AllReadyH.cons (by simp only [List.getElem?_toArray, List.getElem?_cons_succ, List.getElem?_cons_zero]; first | done | rfl) (fun K hK => ?_) ?_
                  · skip
                    refine step_call rfl (nearU_any (ust b 2).num _ (RS.num_bd _).1 (RS.num_bd _).2) (by go_simp) ?_
                    rintro e _ ⟨rfl, rfl⟩
                    refine ⟨_, rfl, ?_⟩
                    refine hK.out _ _ ?_ (fun hHeld => ?_)
                    · (try dsimp only); (first | done | trivial)
                    clear hK K
                    try simp only [Act.put, List.setIfInBounds_toArray, List.set_cons_zero, List.set_cons_succ]
                    refine wpAnyH_take (i := 11) (v := ?_) (by simp only [List.getElem?_toArray, List.getElem?_cons_succ, List.getElem?_cons_zero]; first | done | rfl) (by kernel_rfl) (by kernel_rfl) (by kernel_rfl) (fun _ _ _ h => h) (Or.inl ⟨by rfl, ?hy⟩) (by assumption) ?_
                    case hy => (intro w hSw; (try dsimp only at hSw); go_simp; all_goals with_reducible rfl)
                    try simp only [Act.put, List.setIfInBounds_toArray, List.set_cons_zero, List.set_cons_succ]
                    refine wpAnyH_ready (rs := [13]) (by kernel_rfl) (by simp) ?_
                    refine AllReadyH.cons (by simp only [List.getElem?_toArray, List.getElem?_cons_succ, List.getElem?_cons_zero]; first | done | rfl) (fun K hK => ?_) ?_
                    · skip
                      refine step_store_up rfl (.tmp 5) (.tmp 23) rfl g5 (preU b) rfl rfl zeroU (by repeat (first | exact HU.out | apply UA.drew | apply UA.drewN | apply UA.alloc)) ?_
                      intro v2 hv2
                      have HG := Lib.hid (show RdI w v2 g (ust b 3) ∧ UA g5 (preU b) v2 from ⟨by rw [hv2]; exact RdI.setRow (by repeat (first | exact HI.out | apply RdI.drew | apply RdI.drewN | apply RdI.alloc)) HGG.out _, by rw [hv2]; exact ⟨setRow_heap _ _ _ _ _ _ (UA.row (by repeat (first | exact HU.out | apply UA.drew | apply UA.drewN | apply UA.alloc)))⟩⟩)
                      clear hv2
                      refine hK.out _ _ ?_ (fun hHeld => ?_)
                      · (try dsimp only); (first | done | trivial)
                      clear hK K
                      try simp only [Act.put, List.setIfInBounds_toArray, List.set_cons_zero, List.set_cons_succ]
                      refine wpAnyH_done (by kernel_rfl) ?_ _
                      refine NoPanic.normal ?_
                      go_wp2_with fail
                      go_meet
                      exact ⟨g5, rfl, HG.out.1, HG.out.2, HGG.out⟩
                    exact AllReadyH.nil
                  exact AllReadyH.nil
                exact AllReadyH.nil
              exact AllReadyH.nil
            exact AllReadyH.nil
          exact AllReadyH.nil
        refine AllReadyH.cons (by simp only [List.getElem?_toArray, List.getElem?_cons_succ, List.getElem?_cons_zero]; first | done | rfl) (fun K hK => ?_) ?_
        · skip
          refine step_value rfl (run_alloc_op rfl (run_alloc_up _)) ?_
          try dsimp only
          obtain ⟨g5, hg5⟩ : ∃ g5, g5 = v2.heap.size := ⟨_, rfl⟩
          try rw [show v2.drew.heap.size = v2.heap.size from rfl]
          rw [← hg5]
          refine k_world (fun W' => UA g5 zeroU W' ∧ RdI w W' g (ust b 0) ∧ g < g5) ⟨(by rw [hg5]; first | exact UA.new zeroU _ | exact (UA.new zeroU _).drew), (by repeat (first | exact HI.out | apply RdI.drew | apply RdI.drewN | apply RdI.alloc)), (by rw [hg5]; exact RdI.glt (by repeat (first | exact HI.out | apply RdI.drew | apply RdI.drewN | apply RdI.alloc)))⟩ ?_
          rintro v2 ⟨hu, hi, hgg⟩
          have HU := Lib.hid hu
          have HGG := Lib.hid hgg
          clear HI
          have HI := Lib.hid hi
          clear hu hi hgg hg5
          refine hK.out _ _ ?_ (fun hHeld => ?_)
          · (try dsimp only); (first | done | trivial)
          clear hK K
          try simp only [Act.put, List.setIfInBounds_toArray, List.set_cons_zero, List.set_cons_succ]
          refine wpAnyH_ready (rs := [4]) (by kernel_rfl) (by simp) ?_
          refine AllReadyH.cons (by simp only [List.getElem?_toArray, List.getElem?_cons_succ, List.getElem?_cons_zero]; first | done | rfl) (fun K hK => ?_) ?_
          · skip
            refine step_call rfl (num_u g b 0 _ (RdI.rdr (by repeat (first | exact HI.out | apply RdI.drew | apply RdI.drewN | apply RdI.alloc))) hl) (by go_simp) ?_
            rintro e v2 ⟨rfl, hr, hg⟩
            refine ⟨_, rfl, ?_⟩
            have HI' := Lib.hid (RdI.read (z' := ust b 1) (by repeat (first | exact HI.out | apply RdI.drew | apply RdI.drewN | apply RdI.alloc)) hr hg)
            have HU' := Lib.hid (UA.grown (by repeat (first | exact HU.out | apply UA.drew | apply UA.drewN | apply UA.alloc)) hg (fun e => by have := HGG.out; simp at e; omega))
            clear hr hg
            have HI := HI'
            have HU := HU'
            clear HI' HU'
            refine hK.out _ _ ?_ (fun hHeld => ?_)
            · (try dsimp only); (first | done | trivial)
            clear hK K
            try simp only [Act.put, List.setIfInBounds_toArray, List.set_cons_zero, List.set_cons_succ]
            refine wpAnyH_ready (rs := [5]) (by kernel_rfl) (by simp) ?_
            refine AllReadyH.cons (by simp only [List.getElem?_toArray, List.getElem?_cons_succ, List.getElem?_cons_zero]; first | done | rfl) (fun K hK => ?_) ?_
            · skip
              refine step_call rfl (nearU_any (ust b 0).num _ (RS.num_bd _).1 (RS.num_bd _).2) (by go_simp) ?_
              rintro e _ ⟨rfl, rfl⟩
              refine ⟨_, rfl, ?_⟩
              refine hK.out _ _ ?_ (fun hHeld => ?_)
              · (try dsimp only); (first | done | trivial)
              clear hK K
              try simp only [Act.put, List.setIfInBounds_toArray, List.set_cons_zero, List.set_cons_succ]
              refine wpAnyH_ready (rs := [7]) (by kernel_rfl) (by simp) ?_
              refine AllReadyH.cons (by simp only [List.getElem?_toArray, List.getElem?_cons_succ, List.getElem?_cons_zero]; first | done | rfl) (fun K hK => ?_) ?_
              · skip
                refine step_call rfl (num_u g b 1 _ (RdI.rdr (by repeat (first | exact HI.out | apply RdI.drew | apply RdI.drewN | apply RdI.alloc))) hl) (by go_simp) ?_
                rintro e v2 ⟨rfl, hr, hg⟩
                refine ⟨_, rfl, ?_⟩
                have HI' := Lib.hid (RdI.read (z' := ust b 2) (by repeat (first | exact HI.out | apply RdI.drew | apply RdI.drewN | apply RdI.alloc)) hr hg)
                have HU' := Lib.hid (UA.grown (by repeat (first | exact HU.out | apply UA.drew | apply UA.drewN | apply UA.alloc)) hg (fun e => by have := HGG.out; simp at e; omega))
                clear hr hg
                have HI := HI'
                have HU := HU'
                clear HI' HU'
                refine hK.out _ _ ?_ (fun hHeld => ?_)
                · (try dsimp only); (first | done | trivial)
                clear hK K
                try simp only [Act.put, List.setIfInBounds_toArray, List.set_cons_zero, List.set_cons_succ]
                refine wpAnyH_ready (rs := [9]) (by kernel_rfl) (by simp) ?_
                refine AllReadyH.cons (by simp only [List.getElem?_toArray, List.getElem?_cons_succ, List.getElem?_cons_zero]; first | done | rfl) (fun K hK => ?_) ?_
                · skip
                  refine step_call rfl (num_u g b 2 _ (RdI.rdr (by repeat (first | exact HI.out | apply RdI.drew | apply RdI.drewN | apply RdI.alloc))) hl) (by go_simp) ?_
                  rintro e v2 ⟨rfl, hr, hg⟩
                  refine ⟨_, rfl, ?_⟩
                  have HI' := Lib.hid (RdI.read (z' := ust b 3) (by repeat (first | exact HI.out | apply RdI.drew | apply RdI.drewN | apply RdI.alloc)) hr hg)
                  have HU' := Lib.hid (UA.grown (by repeat (first | exact HU.out | apply UA.drew | apply UA.drewN | apply UA.alloc)) hg (fun e => by have := HGG.out; simp at e; omega))
                  clear hr hg
                  have HI := HI'
                  have HU := HU'
                  clear HI' HU'
                  refine hK.out _ _ ?_ (fun hHeld => ?_)
                  · (try dsimp only); (first | done | trivial)
                  clear hK K
                  try simp only [Act.put, List.setIfInBounds_toArray, List.set_cons_zero, List.set_cons_succ]
                  refine wpAnyH_ready (rs := [10]) (by kernel_rfl) (by simp) ?_
                  refine AllReadyH.cons (by simp only [List.getElem?_toArray, List.getElem?_cons_succ, List.getElem?_cons_zero]; first | done | rfl) (fun K hK => ?_) ?_
                  · skip
                    refine step_call rfl (nearU_any (ust b 2).num _ (RS.num_bd _).1 (RS.num_bd _).2) (by go_simp) ?_
                    rintro e _ ⟨rfl, rfl⟩
                    refine ⟨_, rfl, ?_⟩
                    refine hK.out _ _ ?_ (fun hHeld => ?_)
                    · (try dsimp only); (first | done | trivial)
                    clear hK K
                    try simp only [Act.put, List.setIfInBounds_toArray, List.set_cons_zero, List.set_cons_succ]
                    refine wpAnyH_take (i := 11) (v := ?_) (by simp only [List.getElem?_toArray, List.getElem?_cons_succ, List.getElem?_cons_zero]; first | done | rfl) (by kernel_rfl) (by kernel_rfl) (by kernel_rfl) (fun _ _ _ h => h) (Or.inl ⟨by rfl, ?hy⟩) (by assumption) ?_
                    case hy => (intro w hSw; (try dsimp only at hSw); go_simp; all_goals with_reducible rfl)
                    try simp only [Act.put, List.setIfInBounds_toArray, List.set_cons_zero, List.set_cons_succ]
                    refine wpAnyH_ready (rs := [13]) (by kernel_rfl) (by simp) ?_
                    refine AllReadyH.cons (by simp only [List.getElem?_toArray, List.getElem?_cons_succ, List.getElem?_cons_zero]; first | done | rfl) (fun K hK => ?_) ?_
                    · skip
                      refine step_store_up rfl (.tmp 5) (.tmp 23) rfl g5 (preU b) rfl rfl zeroU (by repeat (first | exact HU.out | apply UA.drew | apply UA.drewN | apply UA.alloc)) ?_
                      intro v2 hv2
                      have HG := Lib.hid (show RdI w v2 g (ust b 3) ∧ UA g5 (preU b) v2 from ⟨by rw [hv2]; exact RdI.setRow (by repeat (first | exact HI.out | apply RdI.drew | apply RdI.drewN | apply RdI.alloc)) HGG.out _, by rw [hv2]; exact ⟨setRow_heap _ _ _ _ _ _ (UA.row (by repeat (first | exact HU.out | apply UA.drew | apply UA.drewN | apply UA.alloc)))⟩⟩)
                      clear hv2
                      refine hK.out _ _ ?_ (fun hHeld => ?_)
                      · (try dsimp only); (first | done | trivial)
                      clear hK K
                      try simp only [Act.put, List.setIfInBounds_toArray, List.set_cons_zero, List.set_cons_succ]
                      refine wpAnyH_done (by kernel_rfl) ?_ _
                      refine NoPanic.normal ?_
                      go_wp2_with fail
                      go_meet
                      exact ⟨g5, rfl, HG.out.1, HG.out.2, HGG.out⟩
                    exact AllReadyH.nil
                  exact AllReadyH.nil
                exact AllReadyH.nil
              exact AllReadyH.nil
            exact AllReadyH.nil
          exact AllReadyH.nil
        exact AllReadyH.nil
      refine AllReadyH.cons (by simp only [List.getElem?_toArray, List.getElem?_cons_succ, List.getElem?_cons_zero]; first | done | rfl) (fun K hK => ?_) ?_
      · skip
        refine step_call rfl (num_u g b 0 _ (RdI.rdr (by repeat (first | exact HI.out | apply RdI.drew | apply RdI.drewN | apply RdI.alloc))) hl) (by go_simp) ?_
        rintro e v2 ⟨rfl, hr, hg⟩
        refine ⟨_, rfl, ?_⟩
        have HI' := Lib.hid (RdI.read (z' := ust b 1) (by repeat (first | exact HI.out | apply RdI.drew | apply RdI.drewN | apply RdI.alloc)) hr hg)
        have HO' := Lib.hid (Own.grownG (by repeat (first | exact HO.out | apply own_drew | apply own_drewN' | apply Own.alloc)) hg)
        clear hr hg
        have HI := HI'
        have HO := HO'
        clear HI' HO'
        refine hK.out _ _ ?_ (fun hHeld => ?_)
        · (try dsimp only); (first | done | trivial)
        clear hK K
        try simp only [Act.put, List.setIfInBounds_toArray, List.set_cons_zero, List.set_cons_succ]
        refine wpAnyH_ready (rs := [2, 5, 12]) (by kernel_rfl) (by simp) ?_
        refine AllReadyH.cons (by simp only [List.getElem?_toArray, List.getElem?_cons_succ, List.getElem?_cons_zero]; first | done | rfl) (fun K hK => ?_) ?_
        · skip
          refine step_conv_bs rfl (.tmp 13) rfl rfl (Own.rd (by repeat (first | exact HO.out | apply own_drew | apply own_drewN' | apply Own.alloc))) ?_
          refine hK.out _ _ ?_ (fun hHeld => ?_)
          · (try dsimp only); (first | done | trivial)
          clear hK K
          try simp only [Act.put, List.setIfInBounds_toArray, List.set_cons_zero, List.set_cons_succ]
          refine wpAnyH_ready (rs := [5, 12]) (by kernel_rfl) (by simp) ?_
          refine AllReadyH.cons (by simp only [List.getElem?_toArray, List.getElem?_cons_succ, List.getElem?_cons_zero]; first | done | rfl) (fun K hK => ?_) ?_
          · skip
            refine step_call rfl (nearU_any (ust b 0).num _ (RS.num_bd _).1 (RS.num_bd _).2) (by go_simp) ?_
            rintro e _ ⟨rfl, rfl⟩
            refine ⟨_, rfl, ?_⟩
            refine hK.out _ _ ?_ (fun hHeld => ?_)
            · (try dsimp only); (first | done | trivial)
            clear hK K
            try simp only [Act.put, List.setIfInBounds_toArray, List.set_cons_zero, List.set_cons_succ]
            refine wpAnyH_ready (rs := [7, 12]) (by kernel_rfl) (by simp) ?_
            refine AllReadyH.cons (by simp only [List.getElem?_toArray, List.getElem?_cons_succ, List.getElem?_cons_zero]; first | done | rfl) (fun K hK => ?_) ?_
            · skip
              refine step_call rfl (num_u g b 1 _ (RdI.rdr (by repeat (first | exact HI.out | apply RdI.drew | apply RdI.drewN | apply RdI.alloc))) hl) (by go_simp) ?_
              rintro e v2 ⟨rfl, hr, hg⟩
              refine ⟨_, rfl, ?_⟩
              have HI' := Lib.hid (RdI.read (z' := ust b 2) (by repeat (first | exact HI.out | apply RdI.drew | apply RdI.drewN | apply RdI.alloc)) hr hg)
              clear hr hg
              have HI := HI'
              clear HI'
              refine hK.out _ _ ?_ (fun hHeld => ?_)
              · (try dsimp only); (first | done | trivial)
              clear hK K
              try simp only [Act.put, List.setIfInBounds_toArray, List.set_cons_zero, List.set_cons_succ]
              refine wpAnyH_ready (rs := [9, 12]) (by kernel_rfl) (by simp) ?_
              refine AllReadyH.cons (by simp only [List.getElem?_toArray, List.getElem?_cons_succ, List.getElem?_cons_zero]; first | done | rfl) (fun K hK => ?_) ?_
              · skip
                refine step_call rfl (num_u g b 2 _ (RdI.rdr (by repeat (first | exact HI.out | apply RdI.drew | apply RdI.drewN | apply RdI.alloc))) hl) (by go_simp) ?_
                rintro e v2 ⟨rfl, hr, hg⟩
                refine ⟨_, rfl, ?_⟩
                have HI' := Lib.hid (RdI.read (z' := ust b 3) (by repeat (first | exact HI.out | apply RdI.drew | apply RdI.drewN | apply RdI.alloc)) hr hg)
                clear hr hg
                have HI := HI'
                clear HI'
                refine hK.out _ _ ?_ (fun hHeld => ?_)
                · (try dsimp only); (first | done | trivial)
                clear hK K
                try simp only [Act.put, List.setIfInBounds_toArray, List.set_cons_zero, List.set_cons_succ]
                refine wpAnyH_ready (rs := [10, 12]) (by kernel_rfl) (by simp) ?_
                refine AllReadyH.cons (by simp only [List.getElem?_toArray, List.getElem?_cons_succ, List.getElem?_cons_zero]; first | done | rfl) (fun K hK => ?_) ?_
                · skip
                  refine step_call rfl (nearU_any (ust b 2).num _ (RS.num_bd _).1 (RS.num_bd _).2) (by go_simp) ?_
                  rintro e _ ⟨rfl, rfl⟩
                  refine ⟨_, rfl, ?_⟩
                  refine hK.out _ _ ?_ (fun hHeld => ?_)
                  · (try dsimp only); (first | done | trivial)
                  clear hK K
                  try simp only [Act.put, List.setIfInBounds_toArray, List.set_cons_zero, List.set_cons_succ]
                  refine wpAnyH_take (i := 11) (v := ?_) (by simp only [List.getElem?_toArray, List.getElem?_cons_succ, List.getElem?_cons_zero]; first | done | rfl) (by kernel_rfl) (by kernel_rfl) (by kernel_rfl) (fun _ _ _ h => h) (Or.inl ⟨by rfl, ?hy⟩) (by assumption) ?_
                  case hy => (intro w hSw; (try dsimp only at hSw); go_simp; all_goals with_reducible rfl)
                  try simp only [Act.put, List.setIfInBounds_toArray, List.set_cons_zero, List.set_cons_succ]
                  refine wpAnyH_ready (rs := [12]) (by kernel_rfl) (by simp) ?_
                  refine AllReadyH.cons (by simp only [List.getElem?_toArray, List.getElem?_cons_succ, List.getElem?_cons_zero]; first | done | rfl) (fun K hK => ?_) ?_
                  · skip
                    refine step_value rfl (run_alloc_op rfl (run_alloc_up _)) ?_
                    try dsimp only
                    obtain ⟨g5, hg5⟩ : ∃ g5, g5 = v2.heap.size := ⟨_, rfl⟩
                    try rw [show v2.drew.heap.size = v2.heap.size from rfl]
                    rw [← hg5]
                    refine k_world (fun W' => UA g5 zeroU W' ∧ RdI w W' g (ust b 3) ∧ g < g5) ⟨(by rw [hg5]; first | exact UA.new zeroU _ | exact (UA.new zeroU _).drew), (by repeat (first | exact HI.out | apply RdI.drew | apply RdI.drewN | apply RdI.alloc)), (by rw [hg5]; exact RdI.glt (by repeat (first | exact HI.out | apply RdI.drew | apply RdI.drewN | apply RdI.alloc)))⟩ ?_
                    rintro v2 ⟨hu, hi, hgg⟩
                    have HU := Lib.hid hu
                    have HGG := Lib.hid hgg
                    clear HI
                    have HI := Lib.hid hi
                    clear hu hi hgg hg5
                    refine hK.out _ _ ?_ (fun hHeld => ?_)
                    · (try dsimp only); (first | done | trivial)
                    clear hK K
                    try simp only [Act.put, List.setIfInBounds_toArray, List.set_cons_zero, List.set_cons_succ]
                    refine wpAnyH_ready (rs := [13]) (by kernel_rfl) (by simp) ?_
                    refine AllReadyH.cons (by simp only [List.getElem?_toArray, List.getElem?_cons_succ, List.getElem?_cons_zero]; first | done | rfl) (fun K hK => ?_) ?_
                    · skip
                      refine step_store_up rfl (.tmp 5) (.tmp 23) rfl g5 (preU b) rfl rfl zeroU (by repeat (first | exact HU.out | apply UA.drew | apply UA.drewN | apply UA.alloc)) ?_
                      intro v2 hv2
                      have HG := Lib.hid (show RdI w v2 g (ust b 3) ∧ UA g5 (preU b) v2 from ⟨by rw [hv2]; exact RdI.setRow (by repeat (first | exact HI.out | apply RdI.drew | apply RdI.drewN | apply RdI.alloc)) HGG.out _, by rw [hv2]; exact ⟨setRow_heap _ _ _ _ _ _ (UA.row (by repeat (first | exact HU.out | apply UA.drew | apply UA.drewN | apply UA.alloc)))⟩⟩)
                      clear hv2
                      refine hK.out _ _ ?_ (fun hHeld => ?_)
                      · (try dsimp only); (first | done | trivial)
                      clear hK K
                      try simp only [Act.put, List.setIfInBounds_toArray, List.set_cons_zero, List.set_cons_succ]
                      refine wpAnyH_done (by kernel_rfl) ?_ _
                      refine NoPanic.normal ?_
                      go_wp2_with fail
                      go_meet
                      exact ⟨g5, rfl, HG.out.1, HG.out.2, HGG.out⟩
                    exact AllReadyH.nil
                  exact AllReadyH.nil
                refine AllReadyH.cons (by simp only [List.getElem?_toArray, List.getElem?_cons_succ, List.getElem?_cons_zero]; first | done | rfl) (fun K hK => ?_) ?_
                · skip
                  refine step_value rfl (run_alloc_op rfl (run_alloc_up _)) ?_
                  try dsimp only
                  obtain ⟨g5, hg5⟩ : ∃ g5, g5 = v2.heap.size := ⟨_, rfl⟩
                  try rw [show v2.drew.heap.size = v2.heap.size from rfl]
                  rw [← hg5]
                  refine k_world (fun W' => UA g5 zeroU W' ∧ RdI w W' g (ust b 3) ∧ g < g5) ⟨(by rw [hg5]; first | exact UA.new zeroU _ | exact (UA.new zeroU _).drew), (by repeat (first | exact HI.out | apply RdI.drew | apply RdI.drewN | apply RdI.alloc)), (by rw [hg5]; exact RdI.glt (by repeat (first | exact HI.out | apply RdI.drew | apply RdI.drewN | apply RdI.alloc)))⟩ ?_
                  rintro v2 ⟨hu, hi, hgg⟩
                  have HU := Lib.hid hu
                  have HGG := Lib.hid hgg
                  clear HI
                  have HI := Lib.hid hi
                  clear hu hi hgg hg5
                  refine hK.out _ _ ?_ (fun hHeld => ?_)
                  · (try dsimp only); (first | done | trivial)
                  clear hK K
                  try simp only [Act.put, List.setIfInBounds_toArray, List.set_cons_zero, List.set_cons_succ]
                  refine wpAnyH_ready (rs := [10]) (by kernel_rfl) (by simp) ?_
                  refine AllReadyH.cons (by simp only [List.getElem?_toArray, List.getElem?_cons_succ, List.getElem?_cons_zero]; first | done | rfl) (fun K hK => ?_) ?_
                  · skip
                    refine step_call rfl (nearU_any (ust b 2).num _ (RS.num_bd _).1 (RS.num_bd _).2) (by go_simp) ?_
                    rintro e _ ⟨rfl, rfl⟩
                    refine ⟨_, rfl, ?_⟩
                    refine hK.out _ _ ?_ (fun hHeld => ?_)
                    · (try dsimp only); (first | done | trivial)
                    clear hK K
                    try simp only [Act.put, List.setIfInBounds_toArray, List.set_cons_zero, List.set_cons_succ]
                    refine wpAnyH_take (i := 11) (v := ?_) (by simp only [List.getElem?_toArray, List.getElem?_cons_succ, List.getElem?_cons_zero]; first | done | rfl) (by kernel_rfl) (by kernel_rfl) (by kernel_rfl) (fun _ _ _ h => h) (Or.inl ⟨by rfl, ?hy⟩) (by assumption) ?_
                    case hy => (intro w hSw; (try dsimp only at hSw); go_simp; all_goals with_reducible rfl)
                    try simp only [Act.put, List.setIfInBounds_toArray, List.set_cons_zero, List.set_cons_succ]
                    refine wpAnyH_ready (rs := [13]) (by kernel_rfl) (by simp) ?_
                    refine AllReadyH.cons (by simp only [List.getElem?_toArray, List.getElem?_cons_succ, List.getElem?_cons_zero]; first | done | rfl) (fun K hK => ?_) ?_
                    · skip
                      refine step_store_up rfl (.tmp 5) (.tmp 23) rfl g5 (preU b) rfl rfl zeroU (by repeat (first | exact HU.out | apply UA.drew | apply UA.drewN | apply UA.alloc)) ?_
                      intro v2 hv2
                      have HG := Lib.hid (show RdI w v2 g (ust b 3) ∧ UA g5 (preU b) v2 from ⟨by rw [hv2]; exact RdI.setRow (by repeat (first | exact HI.out | apply RdI.drew | apply RdI.drewN | apply RdI.alloc)) HGG.out _, by rw [hv2]; exact ⟨setRow_heap _ _ _ _ _ _ (UA.row (by repeat (first | exact HU.out | apply UA.drew | apply UA.drewN | apply UA.alloc)))⟩⟩)
                      clear hv2
                      refine hK.out _ _ ?_ (fun hHeld => ?_)
                      · (try dsimp only); (first | done | trivial)
                      clear hK K
                      try simp only [Act.put, List.setIfInBounds_toArray, List.set_cons_zero, List.set_cons_succ]
                      refine wpAnyH_done (by kernel_rfl) ?_ _
                      refine NoPanic.normal ?_
                      go_wp2_with fail
                      go_meet
                      exact ⟨g5, rfl, HG.out.1, HG.out.2, HGG.out⟩
                    exact AllReadyH.nil
                  exact AllReadyH.nil
                exact AllReadyH.nil
              refine AllReadyH.cons (by simp only [List.getElem?_toArray, List.getElem?_cons_succ, List.getElem?_cons_zero]; first | done | rfl) (fun K hK => ?_) ?_
              · skip
                refine step_value rfl (run_alloc_op rfl (run_alloc_up _)) ?_
                try dsimp only
                obtain ⟨g5, hg5⟩ : ∃ g5, g5 = v2.heap.size := ⟨_, rfl⟩
                try rw [show v2.drew.heap.size = v2.heap.size from rfl]
                rw [← hg5]
                refine k_world (fun W' => UA g5 zeroU W' ∧ RdI w W' g (ust b 2) ∧ g < g5) ⟨(by rw [hg5]; first | exact UA.new zeroU _ | exact (UA.new zeroU _).drew), (by repeat (first | exact HI.out | apply RdI.drew | apply RdI.drewN | apply RdI.alloc)), (by rw [hg5]; exact RdI.glt (by repeat (first | exact HI.out | apply RdI.drew | apply RdI.drewN | apply RdI.alloc)))⟩ ?_
                rintro v2 ⟨hu, hi, hgg⟩
                have HU := Lib.hid hu
                have HGG := Lib.hid hgg
                clear HI
                have HI := Lib.hid hi
                clear hu hi hgg hg5
                refine hK.out _ _ ?_ (fun hHeld => ?_)
                · (try dsimp only); (first | done | trivial)
                clear hK K
                try simp only [Act.put, List.setIfInBounds_toArray, List.set_cons_zero, List.set_cons_succ]
                refine wpAnyH_ready (rs := [9]) (by kernel_rfl) (by simp) ?_
                refine AllReadyH.cons (by simp only [List.getElem?_toArray, List.getElem?_cons_succ, List.getElem?_cons_zero]; first | done | rfl) (fun K hK => ?_) ?_
                · skip
                  refine step_call rfl (num_u g b 2 _ (RdI.rdr (by repeat (first | exact HI.out | apply RdI.drew | apply RdI.drewN | apply RdI.alloc))) hl) (by go_simp) ?_
                  rintro e v2 ⟨rfl, hr, hg⟩
                  refine ⟨_, rfl, ?_⟩
                  have HI' := Lib.hid (RdI.read (z' := ust b 3) (by repeat (first | exact HI.out | apply RdI.drew | apply RdI.drewN | apply RdI.alloc)) hr hg)
                  have HU' := Lib.hid (UA.grown (by repeat (first | exact HU.out | apply UA.drew | apply UA.drewN | apply UA.alloc)) hg (fun e => by have := HGG.out; simp at e; omega))
                  clear hr hg
                  have HI := HI'
                  have HU := HU'
                  clear HI' HU'
                  refine hK.out _ _ ?_ (fun hHeld => ?_)
                  · (try dsimp only); (first | done | trivial)
                  clear hK K
                  try simp only [Act.put, List.setIfInBounds_toArray, List.set_cons_zero, List.set_cons_succ]
                  refine wpAnyH_ready (rs := [10]) (by kernel_rfl) (by simp) ?_
                  refine AllReadyH.cons (by simp only [List.getElem?_toArray, List.getElem?_cons_succ, List.getElem?_cons_zero]; first | done | rfl) (fun K hK => ?_) ?_
                  · skip
                    refine step_call rfl (nearU_any (ust b 2).num _ (RS.num_bd _).1 (RS.num_bd _).2) (by go_simp) ?_
                    rintro e _ ⟨rfl, rfl⟩
                    refine ⟨_, rfl, ?_⟩
                    refine hK.out _ _ ?_ (fun hHeld => ?_)
                    · (try dsimp only); (first | done | trivial)
                    clear hK K
                    try simp only [Act.put, List.setIfInBounds_toArray, List.set_cons_zero, List.set_cons_succ]
                    refine wpAnyH_take (i := 11) (v := ?_) (by simp only [List.getElem?_toArray, List.getElem?_cons_succ, List.getElem?_cons_zero]; first | done | rfl) (by kernel_rfl) (by kernel_rfl) (by kernel_rfl) (fun _ _ _ h => h) (Or.inl ⟨by rfl, ?hy⟩) (by assumption) ?_
                    case hy => (intro w hSw; (try dsimp only at hSw); go_simp; all_goals with_reducible rfl)
                    try simp only [Act.put, List.setIfInBounds_toArray, List.set_cons_zero, List.set_cons_succ]
                    refine wpAnyH_ready (rs := [13]) (by kernel_rfl) (by simp) ?_
                    refine AllReadyH.cons (by simp only [List.getElem?_toArray, List.getElem?_cons_succ, List.getElem?_cons_zero]; first | done | rfl) (fun K hK => ?_) ?_
                    · skip
                      refine step_store_up rfl (.tmp 5) (.tmp 23) rfl g5 (preU b) rfl rfl zeroU (by repeat (first | exact HU.out | apply UA.drew | apply UA.drewN | apply UA.alloc)) ?_
                      intro v2 hv2
                      have HG := Lib.hid (show RdI w v2 g (ust b 3) ∧ UA g5 (preU b) v2 from ⟨by rw [hv2]; exact RdI.setRow (by repeat (first | exact HI.out | apply RdI.drew | apply RdI.drewN | apply RdI.alloc)) HGG.out _, by rw [hv2]; exact ⟨setRow_heap _ _ _ _ _ _ (UA.row (by repeat (first | exact HU.out | apply UA.drew | apply UA.drewN | apply UA.alloc)))⟩⟩)
                      clear hv2
                      refine hK.out _ _ ?_ (fun hHeld => ?_)
                      · (try dsimp only); (first | done | trivial)
                      clear hK K
                      try simp only [Act.put, List.setIfInBounds_toArray, List.set_cons_zero, List.set_cons_succ]
                      refine wpAnyH_done (by kernel_rfl) ?_ _
                      refine NoPanic.normal ?_
                      go_wp2_with fail
                      go_meet
                      exact ⟨g5, rfl, HG.out.1, HG.out.2, HGG.out⟩
                    exact AllReadyH.nil
                  exact AllReadyH.nil
                exact AllReadyH.nil
              exact AllReadyH.nil
            refine AllReadyH.cons (by simp only [List.getElem?_toArray, List.getElem?_cons_succ, List.getElem?_cons_zero]; first | done | rfl) (fun K hK => ?_) ?_
            · skip
              refine step_value rfl (run_alloc_op rfl (run_alloc_up _)) ?_
              try dsimp only
              obtain ⟨g5, hg5⟩ : ∃ g5, g5 = v2.heap.size := ⟨_, rfl⟩
              try rw [show v2.drew.heap.size = v2.heap.size from rfl]
              rw [← hg5]
              refine k_world (fun W' => UA g5 zeroU W' ∧ RdI w W' g (ust b 1) ∧ g < g5) ⟨(by rw [hg5]; first | exact UA.new zeroU _ | exact (UA.new zeroU _).drew), (by repeat (first | exact HI.out | apply RdI.drew | apply RdI.drewN | apply RdI.alloc)), (by rw [hg5]; exact RdI.glt (by repeat (first | exact HI.out | apply RdI.drew | apply RdI.drewN | apply RdI.alloc)))⟩ ?_
              rintro v2 ⟨hu, hi, hgg⟩
              have HU := Lib.hid hu
              have HGG := Lib.hid hgg
              clear HI
              have HI := Lib.hid hi
              clear hu hi hgg hg5
              refine hK.out _ _ ?_ (fun hHeld => ?_)
              · (try dsimp only); (first | done | trivial)
              clear hK K
              try simp only [Act.put, List.setIfInBounds_toArray, List.set_cons_zero, List.set_cons_succ]
              refine wpAnyH_ready (rs := [7]) (by kernel_rfl) (by simp) ?_
              refine AllReadyH.cons (by simp only [List.getElem?_toArray, List.getElem?_cons_succ, List.getElem?_cons_zero]; first | done | rfl) (fun K hK => ?_) ?_
              · skip
                refine step_call rfl (num_u g b 1 _ (RdI.rdr (by repeat (first | exact HI.out | apply RdI.drew | apply RdI.drewN | apply RdI.alloc))) hl) (by go_simp) ?_
                rintro e v2 ⟨rfl, hr, hg⟩
                refine ⟨_, rfl, ?_⟩
                have HI' := Lib.hid (RdI.read (z' := ust b 2) (by repeat (first | exact HI.out | apply RdI.drew | apply RdI.drewN | apply RdI.alloc)) hr hg)
                have HU' := Lib.hid (UA.grown (by repeat (first | exact HU.out | apply UA.drew | apply UA.drewN | apply UA.alloc)) hg (fun e => by have := HGG.out; simp at e; omega))
                clear hr hg
                have HI := HI'
                have HU := HU'
                clear HI' HU'
                refine hK.out _ _ ?_ (fun hHeld => ?_)
                · (try dsimp only); (first | done | trivial)
                clear hK K
                try simp only [Act.put, List.setIfInBounds_toArray, List.set_cons_zero, List.set_cons_succ]
                refine wpAnyH_ready (rs := [9]) (by kernel_rfl) (by simp) ?_
                refine AllReadyH.cons (by simp only [List.getElem?_toArray, List.getElem?_cons_succ, List.getElem?_cons_zero]; first | done | rfl) (fun K hK => ?_) ?_
                · skip
                  refine step_call rfl (num_u g b 2 _ (RdI.rdr (by repeat (first | exact HI.out | apply RdI.drew | apply RdI.drewN | apply RdI.alloc))) hl) (by go_simp) ?_
                  rintro e v2 ⟨rfl, hr, hg⟩
                  refine ⟨_, rfl, ?_⟩
                  have HI' := Lib.hid (RdI.read (z' := ust b 3) (by repeat (first | exact HI.out | apply RdI.drew | apply RdI.drewN | apply RdI.alloc)) hr hg)
                  have HU' := Lib.hid (UA.grown (by repeat (first | exact HU.out | apply UA.drew | apply UA.drewN | apply UA.alloc)) hg (fun e => by have := HGG.out; simp at e; omega))
                  clear hr hg
                  have HI := HI'
                  have HU := HU'
                  clear HI' HU'
                  refine hK.out _ _ ?_ (fun hHeld => ?_)
                  · (try dsimp only); (first | done | trivial)
                  clear hK K
                  try simp only [Act.put, List.setIfInBounds_toArray, List.set_cons_zero, List.set_cons_succ]
                  refine wpAnyH_ready (rs := [10]) (by kernel_rfl) (by simp) ?_
                  refine AllReadyH.cons (by simp only [List.getElem?_toArray, List.getElem?_cons_succ, List.getElem?_cons_zero]; first | done | rfl) (fun K hK => ?_) ?_
                  · skip
                    refine step_call rfl (nearU_any (ust b 2).num _ (RS.num_bd _).1 (RS.num_bd _).2) (by go_simp) ?_
                    rintro e _ ⟨rfl, rfl⟩
                    refine ⟨_, rfl, ?_⟩
                    refine hK.out _ _ ?_ (fun hHeld => ?_)
                    · (try dsimp only); (first | done | trivial)
                    clear hK K
                    try simp only [Act.put, List.setIfInBounds_toArray, List.set_cons_zero, List.set_cons_succ]
                    refine wpAnyH_take (i := 11) (v := ?_) (by simp only [List.getElem?_toArray, List.getElem?_cons_succ, List.getElem?_cons_zero]; first | done | rfl) (by kernel_rfl) (by kernel_rfl) (by kernel_rfl) (fun _ _ _ h => h) (Or.inl ⟨by rfl, ?hy⟩) (by assumption) ?_
                    case hy => (intro w hSw; (try dsimp only at hSw); go_simp; all_goals with_reducible rfl)
                    try simp only [Act.put, List.setIfInBounds_toArray, List.set_cons_zero, List.set_cons_succ]
                    refine wpAnyH_ready (rs := [13]) (by kernel_rfl) (by simp) ?_
                    refine AllReadyH.cons (by simp only [List.getElem?_toArray, List.getElem?_cons_succ, List.getElem?_cons_zero]; first | done | rfl) (fun K hK => ?_) ?_
                    · skip
                      refine step_store_up rfl (.tmp 5) (.tmp 23) rfl g5 (preU b) rfl rfl zeroU (by repeat (first | exact HU.out | apply UA.drew | apply UA.drewN | apply UA.alloc)) ?_
                      intro v2 hv2
                      have HG := Lib.hid (show RdI w v2 g (ust b 3) ∧ UA g5 (preU b) v2 from ⟨by rw [hv2]; exact RdI.setRow (by repeat (first | exact HI.out | apply RdI.drew | apply RdI.drewN | apply RdI.alloc)) HGG.out _, by rw [hv2]; exact ⟨setRow_heap _ _ _ _ _ _ (UA.row (by repeat (first | exact HU.out | apply UA.drew | apply UA.drewN | apply UA.alloc)))⟩⟩)
                      clear hv2
                      refine hK.out _ _ ?_ (fun hHeld => ?_)
                      · (try dsimp only); (first | done | trivial)
                      clear hK K
                      try simp only [Act.put, List.setIfInBounds_toArray, List.set_cons_zero, List.set_cons_succ]
                      refine wpAnyH_done (by kernel_rfl) ?_ _
                      refine NoPanic.normal ?_
                      go_wp2_with fail
                      go_meet
                      exact ⟨g5, rfl, HG.out.1, HG.out.2, HGG.out⟩
                    exact AllReadyH.nil
                  exact AllReadyH.nil
                exact AllReadyH.nil
              exact AllReadyH.nil
            exact AllReadyH.nil
          refine AllReadyH.cons (by simp only [List.getElem?_toArray, List.getElem?_cons_succ, List.getElem?_cons_zero]; first | done | rfl) (fun K hK => ?_) ?_
          · skip
            refine step_value rfl (run_alloc_op rfl (run_alloc_up _)) ?_
            try dsimp only
            obtain ⟨g5, hg5⟩ : ∃ g5, g5 = v2.heap.size := ⟨_, rfl⟩
            try rw [show v2.drew.heap.size = v2.heap.size from rfl]
            rw [← hg5]
            refine k_world (fun W' => UA g5 zeroU W' ∧ RdI w W' g (ust b 1) ∧ g < g5) ⟨(by rw [hg5]; first | exact UA.new zeroU _ | exact (UA.new zeroU _).drew), (by repeat (first | exact HI.out | apply RdI.drew | apply RdI.drewN | apply RdI.alloc)), (by rw [hg5]; exact RdI.glt (by repeat (first | exact HI.out | apply RdI.drew | apply RdI.drewN | apply RdI.alloc)))⟩ ?_
            rintro v2 ⟨hu, hi, hgg⟩
            have HU := Lib.hid hu
            have HGG := Lib.hid hgg
            clear HI
            have HI := Lib.hid hi
            clear hu hi hgg hg5
            refine hK.out _ _ ?_ (fun hHeld => ?_)
            · (try dsimp only); (first | done | trivial)
            clear hK K
            try simp only [Act.put, List.setIfInBounds_toArray, List.set_cons_zero, List.set_cons_succ]
            refine wpAnyH_ready (rs := [5]) (by kernel_rfl) (by simp) ?_
            refine AllReadyH.cons (by simp only [List.getElem?_toArray, List.getElem?_cons_succ, List.getElem?_cons_zero]; first | done | rfl) (fun K hK => ?_) ?_
            · skip
              refine step_call rfl (nearU_any (ust b 0).num _ (RS.num_bd _).1 (RS.num_bd _).2) (by go_simp) ?_
              rintro e _ ⟨rfl, rfl⟩
              refine ⟨_, rfl, ?_⟩
              refine hK.out _ _ ?_ (fun hHeld => ?_)
              · (try dsimp only); (first | done | trivial)
              clear hK K
              try simp only [Act.put, List.setIfInBounds_toArray, List.set_cons_zero, List.set_cons_succ]
              refine wpAnyH_ready (rs := [7]) (by kernel_rfl) (by simp) ?_
              refine AllReadyH.cons (by simp only [List.getElem?_toArray, List.getElem?_cons_succ, List.getElem?_cons_zero]; first | done | rfl) (fun K hK => ?_) ?_
              · skip
                refine step_call rfl (num_u g b 1 _ (RdI.rdr (by repeat (first | exact HI.out | apply RdI.drew | apply RdI.drewN | apply RdI.alloc))) hl) (by go_simp) ?_
                rintro e v2 ⟨rfl, hr, hg⟩
                refine ⟨_, rfl, ?_⟩
                have HI' := Lib.hid (RdI.read (z' := ust b 2) (by repeat (first | exact HI.out | apply RdI.drew | apply RdI.drewN | apply RdI.alloc)) hr hg)
                have HU' := Lib.hid (UA.grown (by repeat (first | exact HU.out | apply UA.drew | apply UA.drewN | apply UA.alloc)) hg (fun e => by have := HGG.out; simp at e; omega))
                clear hr hg
                have HI := HI'
                have HU := HU'
                clear HI' HU'
                refine hK.out _ _ ?_ (fun hHeld => ?_)
                · (try dsimp only); (first | done | trivial)
                clear hK K
                try simp only [Act.put, List.setIfInBounds_toArray, List.set_cons_zero, List.set_cons_succ]
                refine wpAnyH_ready (rs := [9]) (by kernel_rfl) (by simp) ?_
                refine AllReadyH.cons (by simp only [List.getElem?_toArray, List.getElem?_cons_succ, List.getElem?_cons_zero]; first | done | rfl) (fun K hK => ?_) ?_
                · skip
                  refine step_call rfl (num_u g b 2 _ (RdI.rdr (by repeat (first | exact HI.out | apply RdI.drew | apply RdI.drewN | apply RdI.alloc))) hl) (by go_simp) ?_
                  rintro e v2 ⟨rfl, hr, hg⟩
                  refine ⟨_, rfl, ?_⟩
                  have HI' := Lib.hid (RdI.read (z' := ust b 3) (by repeat (first | exact HI.out | apply RdI.drew | apply RdI.drewN | apply RdI.alloc)) hr hg)
                  have HU' := Lib.hid (UA.grown (by repeat (first | exact HU.out | apply UA.drew | apply UA.drewN | apply UA.alloc)) hg (fun e => by have := HGG.out; simp at e; omega))
                  clear hr hg
                  have HI := HI'
                  have HU := HU'
                  clear HI' HU'
                  refine hK.out _ _ ?_ (fun hHeld => ?_)
                  · (try dsimp only); (first | done | trivial)
                  clear hK K
                  try simp only [Act.put, List.setIfInBounds_toArray, List.set_cons_zero, List.set_cons_succ]
                  refine wpAnyH_ready (rs := [10]) (by kernel_rfl) (by simp) ?_
                  refine AllReadyH.cons (by simp only [List.getElem?_toArray, List.getElem?_cons_succ, List.getElem?_cons_zero]; first | done | rfl) (fun K hK => ?_) ?_
                  · skip
                    refine step_call rfl (nearU_any (ust b 2).num _ (RS.num_bd _).1 (RS.num_bd _).2) (by go_simp) ?_
                    rintro e _ ⟨rfl, rfl⟩
                    refine ⟨_, rfl, ?_⟩
                    refine hK.out _ _ ?_ (fun hHeld => ?_)
                    · (try dsimp only); (first | done | trivial)
                    clear hK K
                    try simp only [Act.put, List.setIfInBounds_toArray, List.set_cons_zero, List.set_cons_succ]
                    refine wpAnyH_take (i := 11) (v := ?_) (by simp only [List.getElem?_toArray, List.getElem?_cons_succ, List.getElem?_cons_zero]; first | done | rfl) (by kernel_rfl) (by kernel_rfl) (by kernel_rfl) (fun _ _ _ h => h) (Or.inl ⟨by rfl, ?hy⟩) (by assumption) ?_
                    case hy => (intro w hSw; (try dsimp only at hSw); go_simp; all_goals with_reducible rfl)
                    try simp only [Act.put, List.setIfInBounds_toArray, List.set_cons_zero, List.set_cons_succ]
                    refine wpAnyH_ready (rs := [13]) (by kernel_rfl) (by simp) ?_
                    refine AllReadyH.cons (by simp only [List.getElem?_toArray, List.getElem?_cons_succ, List.getElem?_cons_zero]; first | done | rfl) (fun K hK => ?_) ?_
                    · skip
                      refine step_store_up rfl (.tmp 5) (.tmp 23) rfl g5 (preU b) rfl rfl zeroU (by repeat (first | exact HU.out | apply UA.drew | apply UA.drewN | apply UA.alloc)) ?_
                      intro v2 hv2
                      have HG := Lib.hid (show RdI w v2 g (ust b 3) ∧ UA g5 (preU b) v2 from ⟨by rw [hv2]; exact RdI.setRow (by repeat (first | exact HI.out | apply RdI.drew | apply RdI.drewN | apply RdI.alloc)) HGG.out _, by rw [hv2]; exact ⟨setRow_heap _ _ _ _ _ _ (UA.row (by repeat (first | exact HU.out | apply UA.drew | apply UA.drewN | apply UA.alloc)))⟩⟩)
                      clear hv2
                      refine hK.out _ _ ?_ (fun hHeld => ?_)
                      · (try dsimp only); (first | done | trivial)
                      clear hK K
                      try simp only [Act.put, List.setIfInBounds_toArray, List.set_cons_zero, List.set_cons_succ]
                      refine wpAnyH_done (by kernel_rfl) ?_ _
                      refine NoPanic.normal ?_
                      go_wp2_with fail
                      go_meet
                      exact ⟨g5, rfl, HG.out.1, HG.out.2, HGG.out⟩
                    exact AllReadyH.nil
                  exact AllReadyH.nil
                exact AllReadyH.nil
              exact AllReadyH.nil
            exact AllReadyH.nil
          exact AllReadyH.nil
        refine AllReadyH.cons (by simp only [List.getElem?_toArray, List.getElem?_cons_succ, List.getElem?_cons_zero]; first | done | rfl) (fun K hK => ?_) ?_
        · skip
          refine step_call rfl (nearU_any (ust b 0).num _ (RS.num_bd _).1 (RS.num_bd _).2) (by go_simp) ?_
          rintro e _ ⟨rfl, rfl⟩
          refine ⟨_, rfl, ?_⟩
          refine hK.out _ _ ?_ (fun hHeld => ?_)
          · (try dsimp only); (first | done | trivial)
          clear hK K
          try simp only [Act.put, List.setIfInBounds_toArray, List.set_cons_zero, List.set_cons_succ]
          refine wpAnyH_ready (rs := [2, 7, 12]) (by kernel_rfl) (by simp) ?_
          refine AllReadyH.cons (by simp only [List.getElem?_toArray, List.getElem?_cons_succ, List.getElem?_cons_zero]; first | done | rfl) (fun K hK => ?_) ?_
          · skip
            refine step_conv_bs rfl (.tmp 13) rfl rfl (Own.rd (by repeat (first | exact HO.out | apply own_drew | apply own_drewN' | apply Own.alloc))) ?_
            refine hK.out _ _ ?_ (fun hHeld => ?_)
            · (try dsimp only); (first | done | trivial)
            clear hK K
            try simp only [Act.put, List.setIfInBounds_toArray, List.set_cons_zero, List.set_cons_succ]
            refine wpAnyH_ready (rs := [7, 12]) (by kernel_rfl) (by simp) ?_
            refine AllReadyH.cons (by simp only [List.getElem?_toArray, List.getElem?_cons_succ, List.getElem?_cons_zero]; first | done | rfl) (fun K hK => ?_) ?_
            · skip
              refine step_call rfl (num_u g b 1 _ (RdI.rdr (by repeat (first | exact HI.out | apply RdI.drew | apply RdI.drewN | apply RdI.alloc))) hl) (by go_simp) ?_
              rintro e v2 ⟨rfl, hr, hg⟩
              refine ⟨_, rfl, ?_⟩
              have HI' := Lib.hid (RdI.read (z' := ust b 2) (by repeat (first | exact HI.out | apply RdI.drew | apply RdI.drewN | apply RdI.alloc)) hr hg)
              clear hr hg
              have HI := HI'
              clear HI'
              refine hK.out _ _ ?_ (fun hHeld => ?_)
              · (try dsimp only); (first | done | trivial)
              clear hK K
              try simp only [Act.put, List.setIfInBounds_toArray, List.set_cons_zero, List.set_cons_succ]
              refine wpAnyH_ready (rs := [9, 12]) (by kernel_rfl) (by simp) ?_
              refine AllReadyH.cons (by simp only [List.getElem?_toArray, List.getElem?_cons_succ, List.getElem?_cons_zero]; first | done | rfl) (fun K hK => ?_) ?_
              · skip
                refine step_call rfl (num_u g b 2 _ (RdI.rdr (by repeat (first | exact HI.out | apply RdI.drew | apply RdI.drewN | apply RdI.alloc))) hl) (by go_simp) ?_
                rintro e v2 ⟨rfl, hr, hg⟩
                refine ⟨_, rfl, ?_⟩
                have HI' := Lib.hid (RdI.read (z' := ust b 3) (by repeat (first | exact HI.out | apply RdI.drew | apply RdI.drewN | apply RdI.alloc)) hr hg)
                clear hr hg
                have HI := HI'
                clear HI'
                refine hK.out _ _ ?_ (fun hHeld => ?_)
                · (try dsimp only); (first | done | trivial)
                clear hK K
                try simp only [Act.put, List.setIfInBounds_toArray, List.set_cons_zero, List.set_cons_succ]
                refine wpAnyH_ready (rs := [10, 12]) (by kernel_rfl) (by simp) ?_
                refine AllReadyH.cons (by simp only [List.getElem?_toArray, List.getElem?_cons_succ, List.getElem?_cons_zero]; first | done | rfl) (fun K hK => ?_) ?_
                · skip
                  refine step_call rfl (nearU_any (ust b 2).num _ (RS.num_bd _).1 (RS.num_bd _).2) (by go_simp) ?_
                  rintro e _ ⟨rfl, rfl⟩
                  refine ⟨_, rfl, ?_⟩
                  refine hK.out _ _ ?_ (fun hHeld => ?_)
                  · (try dsimp only); (first | done | trivial)
                  clear hK K
                  try simp only [Act.put, List.setIfInBounds_toArray, List.set_cons_zero, List.set_cons_succ]
                  refine wpAnyH_take (i := 11) (v := ?_) (by simp only [List.getElem?_toArray, List.getElem?_cons_succ, List.getElem?_cons_zero]; first | done | rfl) (by kernel_rfl) (by kernel_rfl) (by kernel_rfl) (fun _ _ _ h => h) (Or.inl ⟨by rfl, ?hy⟩) (by assumption) ?_
                  case hy => (intro w hSw; (try dsimp only at hSw); go_simp; all_goals with_reducible rfl)
                  try simp only [Act.put, List.setIfInBounds_toArray, List.set_cons_zero, List.set_cons_succ]
                  refine wpAnyH_ready (rs := [12]) (by kernel_rfl) (by simp) ?_
                  refine AllReadyH.cons (by simp only [List.getElem?_toArray, List.getElem?_cons_succ, List.getElem?_cons_zero]; first | done | rfl) (fun K hK => ?_) ?_
                  · skip
                    refine step_value rfl (run_alloc_op rfl (run_alloc_up _)) ?_
                    try dsimp only
                    obtain ⟨g5, hg5⟩ : ∃ g5, g5 = v2.heap.size := ⟨_, rfl⟩
                    try rw [show v2.drew.heap.size = v2.heap.size from rfl]
                    rw [← hg5]
                    refine k_world (fun W' => UA g5 zeroU W' ∧ RdI w W' g (ust b 3) ∧ g < g5) ⟨(by rw [hg5]; first | exact UA.new zeroU _ | exact (UA.new zeroU _).drew), (by repeat (first | exact HI.out | apply RdI.drew | apply RdI.drewN | apply RdI.alloc)), (by rw [hg5]; exact RdI.glt (by repeat (first | exact HI.out | apply RdI.drew | apply RdI.drewN | apply RdI.alloc)))⟩ ?_
                    rintro v2 ⟨hu, hi, hgg⟩
                    have HU := Lib.hid hu
                    have HGG := Lib.hid hgg
                    clear HI
                    have HI := Lib.hid hi
                    clear hu hi hgg hg5
                    refine hK.out _ _ ?_ (fun hHeld => ?_)
                    · (try dsimp only); (first | done | trivial)
                    clear hK K
                    try simp only [Act.put, List.setIfInBounds_toArray, List.set_cons_zero, List.set_cons_succ]
                    refine wpAnyH_ready (rs := [13]) (by kernel_rfl) (by simp) ?_
                    refine AllReadyH.cons (by simp only [List.getElem?_toArray, List.getElem?_cons_succ, List.getElem?_cons_zero]; first | done | rfl) (fun K hK => ?_) ?_
                    · skip
                      refine step_store_up rfl (.tmp 5) (.tmp 23) rfl g5 (preU b) rfl rfl zeroU (by repeat (first | exact HU.out | apply UA.drew | apply UA.drewN | apply UA.alloc)) ?_
                      intro v2 hv2
                      have HG := Lib.hid (show RdI w v2 g (ust b 3) ∧ UA g5 (preU b) v2 from ⟨by rw [hv2]; exact RdI.setRow (by repeat (first | exact HI.out | apply RdI.drew | apply RdI.drewN | apply RdI.alloc)) HGG.out _, by rw [hv2]; exact ⟨setRow_heap _ _ _ _ _ _ (UA.row (by repeat (first | exact HU.out | apply UA.drew | apply UA.drewN | apply UA.alloc)))⟩⟩)
                      clear hv2
                      refine hK.out _ _ ?_ (fun hHeld => ?_)
                      · (try dsimp only); (first | done | trivial)
                      clear hK K
                      try simp only [Act.put, List.setIfInBounds_toArray, List.set_cons_zero, List.set_cons_succ]
                      refine wpAnyH_done (by kernel_rfl) ?_ _
                      refine NoPanic.normal ?_
                      go_wp2_with fail
                      go_meet
                      exact ⟨g5, rfl, HG.out.1, HG.out.2, HGG.out⟩
                    exact AllReadyH.nil
                  exact AllReadyH.nil
                refine AllReadyH.cons (by simp only [List.getElem?_toArray, List.getElem?_cons_succ, List.getElem?_cons_zero]; first | done | rfl) (fun K hK => ?_) ?_
                · skip
                  refine step_value rfl (run_alloc_op rfl (run_alloc_up _)) ?_
                  try dsimp only
                  obtain ⟨g5, hg5⟩ : ∃ g5, g5 = v2.heap.size := ⟨_, rfl⟩
                  try rw [show v2.drew.heap.size = v2.heap.size from rfl]
                  rw [← hg5]
                  refine k_world (fun W' => UA g5 zeroU W' ∧ RdI w W' g (ust b 3) ∧ g < g5) ⟨(by rw [hg5]; first | exact UA.new zeroU _ | exact (UA.new zeroU _).drew), (by repeat (first | exact HI.out | apply RdI.drew | apply RdI.drewN | apply RdI.alloc)), (by rw [hg5]; exact RdI.glt (by repeat (first | exact HI.out | apply RdI.drew | apply RdI.drewN | apply RdI.alloc)))⟩ ?_
                  rintro v2 ⟨hu, hi, hgg⟩
                  have HU := Lib.hid hu
                  have HGG := Lib.hid hgg
                  clear HI
                  have HI := Lib.hid hi
                  clear hu hi hgg hg5
                  refine hK.out _ _ ?_ (fun hHeld => ?_)
                  · (try dsimp only); (first | done | trivial)
                  clear hK K
                  try simp only [Act.put, List.setIfInBounds_toArray, List.set_cons_zero, List.set_cons_succ]
                  refine wpAnyH_ready (rs := [10]) (by kernel_rfl) (by simp) ?_
                  refine AllReadyH.cons (by simp only [List.getElem?_toArray, List.getElem?_cons_succ, List.getElem?_cons_zero]; first | done | rfl) (fun K hK => ?_) ?_
                  · skip
                    refine step_call rfl (nearU_any (ust b 2).num _ (RS.num_bd _).1 (RS.num_bd _).2) (by go_simp) ?_
                    rintro e _ ⟨rfl, rfl⟩
                    refine ⟨_, rfl, ?_⟩
                    refine hK.out _ _ ?_ (fun hHeld => ?_)
                    · (try dsimp only); (first | done | trivial)
                    clear hK K
                    try simp only [Act.put, List.setIfInBounds_toArray, List.set_cons_zero, List.set_cons_succ]
                    refine wpAnyH_take (i := 11) (v := ?_) (by simp only [List.getElem?_toArray, List.getElem?_cons_succ, List.getElem?_cons_zero]; first | done | rfl) (by kernel_rfl) (by kernel_rfl) (by kernel_rfl) (fun _ _ _ h => h) (Or.inl ⟨by rfl, ?hy⟩) (by assumption) ?_
                    case hy => (intro w hSw; (try dsimp only at hSw); go_simp; all_goals with_reducible rfl)
                    try simp only [Act.put, List.setIfInBounds_toArray, List.set_cons_zero, List.set_cons_succ]
                    refine wpAnyH_ready (rs := [13]) (by kernel_rfl) (by simp) ?_
                    refine AllReadyH.cons (by simp only [List.getElem?_toArray, List.getElem?_cons_succ, List.getElem?_cons_zero]; first | done | rfl) (fun K hK => ?_) ?_
                    · skip
                      refine step_store_up rfl (.tmp 5) (.tmp 23) rfl g5 (preU b) rfl rfl zeroU (by repeat (first | exact HU.out | apply UA.drew | apply UA.drewN | apply UA.alloc)) ?_
                      intro v2 hv2
                      have HG := Lib.hid (show RdI w v2 g (ust b 3) ∧ UA g5 (preU b) v2 from ⟨by rw [hv2]; exact RdI.setRow (by repeat (first | exact HI.out | apply RdI.drew | apply RdI.drewN | apply RdI.alloc)) HGG.out _, by rw [hv2]; exact ⟨setRow_heap _ _ _ _ _ _ (UA.row (by repeat (first | exact HU.out | apply UA.drew | apply UA.drewN | apply UA.alloc)))⟩⟩)
                      clear hv2
                      refine hK.out _ _ ?_ (fun hHeld => ?_)
                      · (try dsimp only); (first | done | trivial)
                      clear hK K
                      try simp only [Act.put, List.setIfInBounds_toArray, List.set_cons_zero, List.set_cons_succ]
                      refine wpAnyH_done (by kernel_rfl) ?_ _
                      refine NoPanic.normal ?_
                      go_wp2_with fail
                      go_meet
                      exact ⟨g5, rfl, HG.out.1, HG.out.2, HGG.out⟩
                    exact AllReadyH.nil
                  exact AllReadyH.nil
                exact AllReadyH.nil
              refine AllReadyH.cons (by simp only [List.getElem?_toArray, List.getElem?_cons_succ, List.getElem?_cons_zero]; first | done | rfl) (fun K hK => ?_) ?_
              · skip
                refine step_value rfl (run_alloc_op rfl (run_alloc_up _)) ?_
                try dsimp only
                obtain ⟨g5, hg5⟩ : ∃ g5, g5 = v2.heap.size := ⟨_, rfl⟩
                try rw [show v2.drew.heap.size = v2.heap.size from rfl]
                rw [← hg5]
                refine k_world (fun W' => UA g5 zeroU W' ∧ RdI w W' g (ust b 2) ∧ g < g5) ⟨(by rw [hg5]; first | exact UA.new zeroU _ | exact (UA.new zeroU _).drew), (by repeat (first | exact HI.out | apply RdI.drew | apply RdI.drewN | apply RdI.alloc)), (by rw [hg5]; exact RdI.glt (by repeat (first | exact HI.out | apply RdI.drew | apply RdI.drewN | apply RdI.alloc)))⟩ ?_
                rintro v2 ⟨hu, hi, hgg⟩
                have HU := Lib.hid hu
                have HGG := Lib.hid hgg
                clear HI
                have HI := Lib.hid hi
                clear hu hi hgg hg5
                refine hK.out _ _ ?_ (fun hHeld => ?_)
                · (try dsimp only); (first | done | trivial)
                clear hK K
                try simp only [Act.put, List.setIfInBounds_toArray, List.set_cons_zero, List.set_cons_succ]
                refine wpAnyH_ready (rs := [9]) (by kernel_rfl) (by simp) ?_
                refine AllReadyH.cons (by simp only [List.getElem?_toArray, List.getElem?_cons_succ, List.getElem?_cons_zero]; first | done | rfl) (fun K hK => ?_) ?_
                · skip
                  refine step_call rfl (num_u g b 2 _ (RdI.rdr (by repeat (first | exact HI.out | apply RdI.drew | apply RdI.drewN | apply RdI.alloc))) hl) (by go_simp) ?_
                  rintro e v2 ⟨rfl, hr, hg⟩
                  refine ⟨_, rfl, ?_⟩
                  have HI' := Lib.hid (RdI.read (z' := ust b 3) (by repeat (first | exact HI.out | apply RdI.drew | apply RdI.drewN | apply RdI.alloc)) hr hg)
                  have HU' := Lib.hid (UA.grown (by repeat (first | exact HU.out | apply UA.drew | apply UA.drewN | apply UA.alloc)) hg (fun e => by have := HGG.out; simp at e; omega))
                  clear hr hg
                  have HI := HI'
                  have HU := HU'
                  clear HI' HU'
                  refine hK.out _ _ ?_ (fun hHeld => ?_)
                  · (try dsimp only); (first | done | trivial)
                  clear hK K
                  try simp only [Act.put, List.setIfInBounds_toArray, List.set_cons_zero, List.set_cons_succ]
                  refine wpAnyH_ready (rs := [10]) (by kernel_rfl) (by simp) ?_
                  refine AllReadyH.cons (by simp only [List.getElem?_toArray, List.getElem?_cons_succ, List.getElem?_cons_zero]; first | done | rfl) (fun K hK => ?_) ?_
                  · skip
                    refine step_call rfl (nearU_any (ust b 2).num _ (RS.num_bd _).1 (RS.num_bd _).2) (by go_simp) ?_
                    rintro e _ ⟨rfl, rfl⟩
                    refine ⟨_, rfl, ?_⟩
                    refine hK.out _ _ ?_ (fun hHeld => ?_)
                    · (try dsimp only); (first | done | trivial)
                    clear hK K
                    try simp only [Act.put, List.setIfInBounds_toArray, List.set_cons_zero, List.set_cons_succ]
                    refine wpAnyH_take (i := 11) (v := ?_) (by simp only [List.getElem?_toArray, List.getElem?_cons_succ, List.getElem?_cons_zero]; first | done | rfl) (by kernel_rfl) (by kernel_rfl) (by kernel_rfl) (fun _ _ _ h => h) (Or.inl ⟨by rfl, ?hy⟩) (by assumption) ?_
                    case hy => (intro w hSw; (try dsimp only at hSw); go_simp; all_goals with_reducible rfl)
                    try simp only [Act.put, List.setIfInBounds_toArray, List.set_cons_zero, List.set_cons_succ]
                    refine wpAnyH_ready (rs := [13]) (by kernel_rfl) (by simp) ?_
                    refine AllReadyH.cons (by simp only [List.getElem?_toArray, List.getElem?_cons_succ, List.getElem?_cons_zero]; first | done | rfl) (fun K hK => ?_) ?_
                    · skip
                      refine step_store_up rfl (.tmp 5) (.tmp 23) rfl g5 (preU b) rfl rfl zeroU (by repeat (first | exact HU.out | apply UA.drew | apply UA.drewN | apply UA.alloc)) ?_
                      intro v2 hv2
                      have HG := Lib.hid (show RdI w v2 g (ust b 3) ∧ UA g5 (preU b) v2 from ⟨by rw [hv2]; exact RdI.setRow (by repeat (first | exact HI.out | apply RdI.drew | apply RdI.drewN | apply RdI.alloc)) HGG.out _, by rw [hv2]; exact ⟨setRow_heap _ _ _ _ _ _ (UA.row (by repeat (first | exact HU.out | apply UA.drew | apply UA.drewN | apply UA.alloc)))⟩⟩)
                      clear hv2
                      refine hK.out _ _ ?_ (fun hHeld => ?_)
                      · (try dsimp only); (first | done | trivial)
                      clear hK K
                      try simp only [Act.put, List.setIfInBounds_toArray, List.set_cons_zero, List.set_cons_succ]
                      refine wpAnyH_done (by kernel_rfl) ?_ _
                      refine NoPanic.normal ?_
                      go_wp2_with fail
                      go_meet
                      exact ⟨g5, rfl, HG.out.1, HG.out.2, HGG.out⟩
                    exact AllReadyH.nil
                  exact AllReadyH.nil
                exact AllReadyH.nil
              exact AllReadyH.nil
            refine AllReadyH.cons (by simp only [List.getElem?_toArray, List.getElem?_cons_succ, List.getElem?_cons_zero]; first | done | rfl) (fun K hK => ?_) ?_
            · skip
              refine step_value rfl (run_alloc_op rfl (run_alloc_up _)) ?_
              try dsimp only
              obtain ⟨g5, hg5⟩ : ∃ g5, g5 = v2.heap.size := ⟨_, rfl⟩
              try rw [show v2.drew.heap.size = v2.heap.size from rfl]
              rw [← hg5]
              refine k_world (fun W' => UA g5 zeroU W' ∧ RdI w W' g (ust b 1) ∧ g < g5) ⟨(by rw [hg5]; first | exact UA.new zeroU _ | exact (UA.new zeroU _).drew), (by repeat (first | exact HI.out | apply RdI.drew | apply RdI.drewN | apply RdI.alloc)), (by rw [hg5]; exact RdI.glt (by repeat (first | exact HI.out | apply RdI.drew | apply RdI.drewN | apply RdI.alloc)))⟩ ?_
              rintro v2 ⟨hu, hi, hgg⟩
              have HU := Lib.hid hu
              have HGG := Lib.hid hgg
              clear HI
              have HI := Lib.hid hi
              clear hu hi hgg hg5
              refine hK.out _ _ ?_ (fun hHeld => ?_)
              · (try dsimp only); (first | done | trivial)
              clear hK K
              try simp only [Act.put, List.setIfInBounds_toArray, List.set_cons_zero, List.set_cons_succ]
              refine wpAnyH_ready (rs := [7]) (by kernel_rfl) (by simp) ?_
              refine AllReadyH.cons (by simp only [List.getElem?_toArray, List.getElem?_cons_succ, List.getElem?_cons_zero]; first | done | rfl) (fun K hK => ?_) ?_
              · skip
                refine step_call rfl (num_u g b 1 _ (RdI.rdr (by repeat (first | exact HI.out | apply RdI.drew | apply RdI.drewN | apply RdI.alloc))) hl) (by go_simp) ?_
                rintro e v2 ⟨rfl, hr, hg⟩
                refine ⟨_, rfl, ?_⟩
                have HI' := Lib.hid (RdI.read (z' := ust b 2) (by repeat (first | exact HI.out | apply RdI.drew | apply RdI.drewN | apply RdI.alloc)) hr hg)
                have HU' := Lib.hid (UA.grown (by repeat (first | exact HU.out | apply UA.drew | apply UA.drewN | apply UA.alloc)) hg (fun e => by have := HGG.out; simp at e; omega))
                clear hr hg
                have HI := HI'
                have HU := HU'
                clear HI' HU'
                refine hK.out _ _ ?_ (fun hHeld => ?_)
                · (try dsimp only); (first | done | trivial)
                clear hK K
                try simp only [Act.put, List.setIfInBounds_toArray, List.set_cons_zero, List.set_cons_succ]
                refine wpAnyH_ready (rs := [9]) (by kernel_rfl) (by simp) ?_
                refine AllReadyH.cons (by simp only [List.getElem?_toArray, List.getElem?_cons_succ, List.getElem?_cons_zero]; first | done | rfl) (fun K hK => ?_) ?_
                · skip
                  refine step_call rfl (num_u g b 2 _ (RdI.rdr (by repeat (first | exact HI.out | apply RdI.drew | apply RdI.drewN | apply RdI.alloc))) hl) (by go_simp) ?_
                  rintro e v2 ⟨rfl, hr, hg⟩
                  refine ⟨_, rfl, ?_⟩
                  have HI' := Lib.hid (RdI.read (z' := ust b 3) (by repeat (first | exact HI.out | apply RdI.drew | apply RdI.drewN | apply RdI.alloc)) hr hg)
                  have HU' := Lib.hid (UA.grown (by repeat (first | exact HU.out | apply UA.drew | apply UA.drewN | apply UA.alloc)) hg (fun e => by have := HGG.out; simp at e; omega))
                  clear hr hg
                  have HI := HI'
                  have HU := HU'
                  clear HI' HU'
                  refine hK.out _ _ ?_ (fun hHeld => ?_)
                  · (try dsimp only); (first | done | trivial)
                  clear hK K
                  try simp only [Act.put, List.setIfInBounds_toArray, List.set_cons_zero, List.set_cons_succ]
                  refine wpAnyH_ready (rs := [10]) (by kernel_rfl) (by simp) ?_
                  refine AllReadyH.cons (by simp only [List.getElem?_toArray, List.getElem?_cons_succ, List.getElem?_cons_zero]; first | done | rfl) (fun K hK => ?_) ?_
                  · skip
                    refine step_call rfl (nearU_any (ust b 2).num _ (RS.num_bd _).1 (RS.num_bd _).2) (by go_simp) ?_
                    rintro e _ ⟨rfl, rfl⟩
                    refine ⟨_, rfl, ?_⟩
                    refine hK.out _ _ ?_ (fun hHeld => ?_)
                    · (try dsimp only); (first | done | trivial)
                    clear hK K
                    try simp only [Act.put, List.setIfInBounds_toArray, List.set_cons_zero, List.set_cons_succ]
                    refine wpAnyH_take (i := 11) (v := ?_) (by simp only [List.getElem?_toArray, List.getElem?_cons_succ, List.getElem?_cons_zero]; first | done | rfl) (by kernel_rfl) (by kernel_rfl) (by kernel_rfl) (fun _ _ _ h => h) (Or.inl ⟨by rfl, ?hy⟩) (by assumption) ?_
                    case hy => (intro w hSw; (try dsimp only at hSw); go_simp; all_goals with_reducible rfl)
                    try simp only [Act.put, List.setIfInBounds_toArray, List.set_cons_zero, List.set_cons_succ]
                    refine wpAnyH_ready (rs := [13]) (by kernel_rfl) (by simp) ?_
                    refine AllReadyH.cons (by simp only [List.getElem?_toArray, List.getElem?_cons_succ, List.getElem?_cons_zero]; first | done | rfl) (fun K hK => ?_) ?_
                    · skip
                      refine step_store_up rfl (.tmp 5) (.tmp 23) rfl g5 (preU b) rfl rfl zeroU (by repeat (first | exact HU.out | apply UA.drew | apply UA.drewN | apply UA.alloc)) ?_
                      intro v2 hv2
                      have HG := Lib.hid (show RdI w v2 g (ust b 3) ∧ UA g5 (preU b) v2 from ⟨by rw [hv2]; exact RdI.setRow (by repeat (first | exact HI.out | apply RdI.drew | apply RdI.drewN | apply RdI.alloc)) HGG.out _, by rw [hv2]; exact ⟨setRow_heap _ _ _ _ _ _ (UA.row (by repeat (first | exact HU.out | apply UA.drew | apply UA.drewN | apply UA.alloc)))⟩⟩)
                      clear hv2
                      refine hK.out _ _ ?_ (fun hHeld => ?_)
                      · (try dsimp only); (first | done | trivial)
                      clear hK K
                      try simp only [Act.put, List.setIfInBounds_toArray, List.set_cons_zero, List.set_cons_succ]
                      refine wpAnyH_done (by kernel_rfl) ?_ _
                      refine NoPanic.normal ?_
                      go_wp2_with fail
                      go_meet
                      exact ⟨g5, rfl, HG.out.1, HG.out.2, HGG.out⟩
                    exact AllReadyH.nil
                  exact AllReadyH.nil
                exact AllReadyH.nil
              exact AllReadyH.nil
            exact AllReadyH.nil
          refine AllReadyH.cons (by simp only [List.getElem?_toArray, List.getElem?_cons_succ, List.getElem?_cons_zero]; first | done | rfl) (fun K hK => ?_) ?_
          · skip
            refine step_call rfl (num_u g b 1 _ (RdI.rdr (by repeat (first | exact HI.out | apply RdI.drew | apply RdI.drewN | apply RdI.alloc))) hl) (by go_simp) ?_
            rintro e v2 ⟨rfl, hr, hg⟩
            refine ⟨_, rfl, ?_⟩
            have HI' := Lib.hid (RdI.read (z' := ust b 2) (by repeat (first | exact HI.out | apply RdI.drew | apply RdI.drewN | apply RdI.alloc)) hr hg)
            have HO' := Lib.hid (Own.grownG (by repeat (first | exact HO.out | apply own_drew | apply own_drewN' | apply Own.alloc)) hg)
            clear hr hg
            have HI := HI'
            have HO := HO'
            clear HI' HO'
            refine hK.out _ _ ?_ (fun hHeld => ?_)
            · (try dsimp only); (first | done | trivial)
            clear hK K
            try simp only [Act.put, List.setIfInBounds_toArray, List.set_cons_zero, List.set_cons_succ]
            refine wpAnyH_ready (rs := [2, 9, 12]) (by kernel_rfl) (by simp) ?_
            refine AllReadyH.cons (by simp only [List.getElem?_toArray, List.getElem?_cons_succ, List.getElem?_cons_zero]; first | done | rfl) (fun K hK => ?_) ?_
            · skip
              refine step_conv_bs rfl (.tmp 13) rfl rfl (Own.rd (by repeat (first | exact HO.out | apply own_drew | apply own_drewN' | apply Own.alloc))) ?_
              refine hK.out _ _ ?_ (fun hHeld => ?_)
              · (try dsimp only); (first | done | trivial)
              clear hK K
              try simp only [Act.put, List.setIfInBounds_toArray, List.set_cons_zero, List.set_cons_succ]
              refine wpAnyH_ready (rs := [9, 12]) (by kernel_rfl) (by simp) ?_
              refine AllReadyH.cons (by simp only [List.getElem?_toArray, List.getElem?_cons_succ, List.getElem?_cons_zero]; first | done | rfl) (fun K hK => ?_) ?_
              · skip
                refine step_call rfl (num_u g b 2 _ (RdI.rdr (by repeat (first | exact HI.out | apply RdI.drew | apply RdI.drewN | apply RdI.alloc))) hl) (by go_simp) ?_
                rintro e v2 ⟨rfl, hr, hg⟩
                refine ⟨_, rfl, ?_⟩
                have HI' := Lib.hid (RdI.read (z' := ust b 3) (by repeat (first | exact HI.out | apply RdI.drew | apply RdI.drewN | apply RdI.alloc)) hr hg)
                clear hr hg
                have HI := HI'
                clear HI'
                refine hK.out _ _ ?_ (fun hHeld => ?_)
                · (try dsimp only); (first | done | trivial)
                clear hK K
                try simp only [Act.put, List.setIfInBounds_toArray, List.set_cons_zero, List.set_cons_succ]
                refine wpAnyH_ready (rs := [10, 12]) (by kernel_rfl) (by simp) ?_
                refine AllReadyH.cons (by simp only [List.getElem?_toArray, List.getElem?_cons_succ, List.getElem?_cons_zero]; first | done | rfl) (fun K hK => ?_) ?_
                · skip
                  refine step_call rfl (nearU_any (ust b 2).num _ (RS.num_bd _).1 (RS.num_bd _).2) (by go_simp) ?_
                  rintro e _ ⟨rfl, rfl⟩
                  refine ⟨_, rfl, ?_⟩
                  refine hK.out _ _ ?_ (fun hHeld => ?_)
                  · (try dsimp only); (first | done | trivial)
                  clear hK K
                  try simp only [Act.put, List.setIfInBounds_toArray, List.set_cons_zero, List.set_cons_succ]
                  refine wpAnyH_take (i := 11) (v := ?_) (by simp only [List.getElem?_toArray, List.getElem?_cons_succ, List.getElem?_cons_zero]; first | done | rfl) (by kernel_rfl) (by kernel_rfl) (by kernel_rfl) (fun _ _ _ h => h) (Or.inl ⟨by rfl, ?hy⟩) (by assumption) ?_
                  case hy => (intro w hSw; (try dsimp only at hSw); go_simp; all_goals with_reducible rfl)
                  try simp only [Act.put, List.setIfInBounds_toArray, List.set_cons_zero, List.set_cons_succ]
                  refine wpAnyH_ready (rs := [12]) (by kernel_rfl) (by simp) ?_
                  refine AllReadyH.cons (by simp only [List.getElem?_toArray, List.getElem?_cons_succ, List.getElem?_cons_zero]; first | done | rfl) (fun K hK => ?_) ?_
                  · skip
                    refine step_value rfl (run_alloc_op rfl (run_alloc_up _)) ?_
                    try dsimp only
                    obtain ⟨g5, hg5⟩ : ∃ g5, g5 = v2.heap.size := ⟨_, rfl⟩
                    try rw [show v2.drew.heap.size = v2.heap.size from rfl]
                    rw [← hg5]
                    refine k_world (fun W' => UA g5 zeroU W' ∧ RdI w W' g (ust b 3) ∧ g < g5) ⟨(by rw [hg5]; first | exact UA.new zeroU _ | exact (UA.new zeroU _).drew), (by repeat (first | exact HI.out | apply RdI.drew | apply RdI.drewN | apply RdI.alloc)), (by rw [hg5]; exact RdI.glt (by repeat (first | exact HI.out | apply RdI.drew | apply RdI.drewN | apply RdI.alloc)))⟩ ?_
                    rintro v2 ⟨hu, hi, hgg⟩
                    have HU := Lib.hid hu
                    have HGG := Lib.hid hgg
                    clear HI
                    have HI := Lib.hid hi
                    clear hu hi hgg hg5
                    refine hK.out _ _ ?_ (fun hHeld => ?_)
                    · (try dsimp only); (first | done | trivial)
                    clear hK K
                    try simp only [Act.put, List.setIfInBounds_toArray, List.set_cons_zero, List.set_cons_succ]
                    refine wpAnyH_ready (rs := [13]) (by kernel_rfl) (by simp) ?_
                    refine AllReadyH.cons (by simp only [List.getElem?_toArray, List.getElem?_cons_succ, List.getElem?_cons_zero]; first | done | rfl) (fun K hK => ?_) ?_
                    · skip
                      refine step_store_up rfl (.tmp 5) (.tmp 23) rfl g5 (preU b) rfl rfl zeroU (by repeat (first | exact HU.out | apply UA.drew | apply UA.drewN | apply UA.alloc)) ?_
                      intro v2 hv2
                      have HG := Lib.hid (show RdI w v2 g (ust b 3) ∧ UA g5 (preU b) v2 from ⟨by rw [hv2]; exact RdI.setRow (by repeat (first | exact HI.out | apply RdI.drew | apply RdI.drewN | apply RdI.alloc)) HGG.out _, by rw [hv2]; exact ⟨setRow_heap _ _ _ _ _ _ (UA.row (by repeat (first | exact HU.out | apply UA.drew | apply UA.drewN | apply UA.alloc)))⟩⟩)
                      clear hv2
                      refine hK.out _ _ ?_ (fun hHeld => ?_)
                      · (try dsimp only); (first | done | trivial)
                      clear hK K
                      try simp only [Act.put, List.setIfInBounds_toArray, List.set_cons_zero, List.set_cons_succ]
                      refine wpAnyH_done (by kernel_rfl) ?_ _
                      refine NoPanic.normal ?_
                      go_wp2_with fail
                      go_meet
                      exact ⟨g5, rfl, HG.out.1, HG.out.2, HGG.out⟩
                    exact AllReadyH.nil
                  exact AllReadyH.nil
                refine AllReadyH.cons (by simp only [List.getElem?_toArray, List.getElem?_cons_succ, List.getElem?_cons_zero]; first | done | rfl) (fun K hK => ?_) ?_
                · skip
                  refine step_value rfl (run_alloc_op rfl (run_alloc_up _)) ?_
                  try dsimp only
                  obtain ⟨g5, hg5⟩ : ∃ g5, g5 = v2.heap.size := ⟨_, rfl⟩
                  try rw [show v2.drew.heap.size = v2.heap.size from rfl]
                  rw [← hg5]
                  refine k_world (fun W' => UA g5 zeroU W' ∧ RdI w W' g (ust b 3) ∧ g < g5) ⟨(by rw [hg5]; first | exact UA.new zeroU _ | exact (UA.new zeroU _).drew), (by repeat (first | exact HI.out | apply RdI.drew | apply RdI.drewN | apply RdI.alloc)), (by rw [hg5]; exact RdI.glt (by repeat (first | exact HI.out | apply RdI.drew | apply RdI.drewN | apply RdI.alloc)))⟩ ?_
                  rintro v2 ⟨hu, hi, hgg⟩
                  have HU := Lib.hid hu
                  have HGG := Lib.hid hgg
                  clear HI
                  have HI := Lib.hid hi
                  clear hu hi hgg hg5
                  refine hK.out _ _ ?_ (fun hHeld => ?_)
                  · (try dsimp only); (first | done | trivial)
                  clear hK K
                  try simp only [Act.put, List.setIfInBounds_toArray, List.set_cons_zero, List.set_cons_succ]
                  refine wpAnyH_ready (rs := [10]) (by kernel_rfl) (by simp) ?_
                  refine AllReadyH.cons (by simp only [List.getElem?_toArray, List.getElem?_cons_succ, List.getElem?_cons_zero]; first | done | rfl) (fun K hK => ?_) ?_
                  · skip
                    refine step_call rfl (nearU_any (ust b 2).num _ (RS.num_bd _).1 (RS.num_bd _).2) (by go_simp) ?_
                    rintro e _ ⟨rfl, rfl⟩
                    refine ⟨_, rfl, ?_⟩
                    refine hK.out _ _ ?_ (fun hHeld => ?_)
                    · (try dsimp only); (first | done | trivial)
                    clear hK K
                    try simp only [Act.put, List.setIfInBounds_toArray, List.set_cons_zero, List.set_cons_succ]
                    refine wpAnyH_take (i := 11) (v := ?_) (by simp only [List.getElem?_toArray, List.getElem?_cons_succ, List.getElem?_cons_zero]; first | done | rfl) (by kernel_rfl) (by kernel_rfl) (by kernel_rfl) (fun _ _ _ h => h) (Or.inl ⟨by rfl, ?hy⟩) (by assumption) ?_
                    case hy => (intro w hSw; (try dsimp only at hSw); go_simp; all_goals with_reducible rfl)
                    try simp only [Act.put, List.setIfInBounds_toArray, List.set_cons_zero, List.set_cons_succ]
                    refine wpAnyH_ready (rs := [13]) (by kernel_rfl) (by simp) ?_
                    refine AllReadyH.cons (by simp only [List.getElem?_toArray, List.getElem?_cons_succ, List.getElem?_cons_zero]; first | done | rfl) (fun K hK => ?_) ?_
                    · skip
                      refine step_store_up rfl (.tmp 5) (.tmp 23) rfl g5 (preU b) rfl rfl zeroU (by repeat (first | exact HU.out | apply UA.drew | apply UA.drewN | apply UA.alloc)) ?_
                      intro v2 hv2
                      have HG := Lib.hid (show RdI w v2 g (ust b 3) ∧ UA g5 (preU b) v2 from ⟨by rw [hv2]; exact RdI.setRow (by repeat (first | exact HI.out | apply RdI.drew | apply RdI.drewN | apply RdI.alloc)) HGG.out _, by rw [hv2]; exact ⟨setRow_heap _ _ _ _ _ _ (UA.row (by repeat (first | exact HU.out | apply UA.drew | apply UA.drewN | apply UA.alloc)))⟩⟩)
                      clear hv2
                      refine hK.out _ _ ?_ (fun hHeld => ?_)
                      · (try dsimp only); (first | done | trivial)
                      clear hK K
                      try simp only [Act.put, List.setIfInBounds_toArray, List.set_cons_zero, List.set_cons_succ]
                      refine wpAnyH_done (by kernel_rfl) ?_ _
                      refine NoPanic.normal ?_
                      go_wp2_with fail
                      go_meet
                      exact ⟨g5, rfl, HG.out.1, HG.out.2, HGG.out⟩
                    exact AllReadyH.nil
                  exact AllReadyH.nil
                exact AllReadyH.nil
              refine AllReadyH.cons (by simp only [List.getElem?_toArray, List.getElem?_cons_succ, List.getElem?_cons_zero]; first | done | rfl) (fun K hK => ?_) ?_
              · skip
                refine step_value rfl (run_alloc_op rfl (run_alloc_up _)) ?_
                try dsimp only
                obtain ⟨g5, hg5⟩ : ∃ g5, g5 = v2.heap.size := ⟨_, rfl⟩
                try rw [show v2.drew.heap.size = v2.heap.size from rfl]
                rw [← hg5]
                refine k_world (fun W' => UA g5 zeroU W' ∧ RdI w W' g (ust b 2) ∧ g < g5) ⟨(by rw [hg5]; first | exact UA.new zeroU _ | exact (UA.new zeroU _).drew), (by repeat (first | exact HI.out | apply RdI.drew | apply RdI.drewN | apply RdI.alloc)), (by rw [hg5]; exact RdI.glt (by repeat (first | exact HI.out | apply RdI.drew | apply RdI.drewN | apply RdI.alloc)))⟩ ?_
                rintro v2 ⟨hu, hi, hgg⟩
                have HU := Lib.hid hu
                have HGG := Lib.hid hgg
                clear HI
                have HI := Lib.hid hi
                clear hu hi hgg hg5
                refine hK.out _ _ ?_ (fun hHeld => ?_)
                · (try dsimp only); (first | done | trivial)
                clear hK K
                try simp only [Act.put, List.setIfInBounds_toArray, List.set_cons_zero, List.set_cons_succ]
                refine wpAnyH_ready (rs := [9]) (by kernel_rfl) (by simp) ?_
                refine AllReadyH.cons (by simp only [List.getElem?_toArray, List.getElem?_cons_succ, List.getElem?_cons_zero]; first | done | rfl) (fun K hK => ?_) ?_
                · skip
                  refine step_call rfl (num_u g b 2 _ (RdI.rdr (by repeat (first | exact HI.out | apply RdI.drew | apply RdI.drewN | apply RdI.alloc))) hl) (by go_simp) ?_
                  rintro e v2 ⟨rfl, hr, hg⟩
                  refine ⟨_, rfl, ?_⟩
                  have HI' := Lib.hid (RdI.read (z' := ust b 3) (by repeat (first | exact HI.out | apply RdI.drew | apply RdI.drewN | apply RdI.alloc)) hr hg)
                  have HU' := Lib.hid (UA.grown (by repeat (first | exact HU.out | apply UA.drew | apply UA.drewN | apply UA.alloc)) hg (fun e => by have := HGG.out; simp at e; omega))
                  clear hr hg
                  have HI := HI'
                  have HU := HU'
                  clear HI' HU'
                  refine hK.out _ _ ?_ (fun hHeld => ?_)
                  · (try dsimp only); (first | done | trivial)
                  clear hK K
                  try simp only [Act.put, List.setIfInBounds_toArray, List.set_cons_zero, List.set_cons_succ]
                  refine wpAnyH_ready (rs := [10]) (by kernel_rfl) (by simp) ?_
                  refine AllReadyH.cons (by simp only [List.getElem?_toArray, List.getElem?_cons_succ, List.getElem?_cons_zero]; first | done | rfl) (fun K hK => ?_) ?_
                  · skip
                    refine step_call rfl (nearU_any (ust b 2).num _ (RS.num_bd _).1 (RS.num_bd _).2) (by go_simp) ?_
                    rintro e _ ⟨rfl, rfl⟩
                    refine ⟨_, rfl, ?_⟩
                    refine hK.out _ _ ?_ (fun hHeld => ?_)
                    · (try dsimp only); (first | done | trivial)
                    clear hK K
                    try simp only [Act.put, List.setIfInBounds_toArray, List.set_cons_zero, List.set_cons_succ]
                    refine wpAnyH_take (i := 11) (v := ?_) (by simp only [List.getElem?_toArray, List.getElem?_cons_succ, List.getElem?_cons_zero]; first | done | rfl) (by kernel_rfl) (by kernel_rfl) (by kernel_rfl) (fun _ _ _ h => h) (Or.inl ⟨by rfl, ?hy⟩) (by assumption) ?_
                    case hy => (intro w hSw; (try dsimp only at hSw); go_simp; all_goals with_reducible rfl)
                    try simp only [Act.put, List.setIfInBounds_toArray, List.set_cons_zero, List.set_cons_succ]
                    refine wpAnyH_ready (rs := [13]) (by kernel_rfl) (by simp) ?_
                    refine AllReadyH.cons (by simp only [List.getElem?_toArray, List.getElem?_cons_succ, List.getElem?_cons_zero]; first | done | rfl) (fun K hK => ?_) ?_
                    · skip
                      refine step_store_up rfl (.tmp 5) (.tmp 23) rfl g5 (preU b) rfl rfl zeroU (by repeat (first | exact HU.out | apply UA.drew | apply UA.drewN | apply UA.alloc)) ?_
                      intro v2 hv2
                      have HG := Lib.hid (show RdI w v2 g (ust b 3) ∧ UA g5 (preU b) v2 from ⟨by rw [hv2]; exact RdI.setRow (by repeat (first | exact HI.out | apply RdI.drew | apply RdI.drewN | apply RdI.alloc)) HGG.out _, by rw [hv2]; exact ⟨setRow_heap _ _ _ _ _ _ (UA.row (by repeat (first | exact HU.out | apply UA.drew | apply UA.drewN | apply UA.alloc)))⟩⟩)
                      clear hv2
                      refine hK.out _ _ ?_ (fun hHeld => ?_)
                      · (try dsimp only); (first | done | trivial)
                      clear hK K
                      try simp only [Act.put, List.setIfInBounds_toArray, List.set_cons_zero, List.set_cons_succ]
                      refine wpAnyH_done (by kernel_rfl) ?_ _
                      refine NoPanic.normal ?_
                      go_wp2_with fail
                      go_meet
                      exact ⟨g5, rfl, HG.out.1, HG.out.2, HGG.out⟩
                    exact AllReadyH.nil
                  exact AllReadyH.nil
                exact AllReadyH.nil
              exact AllReadyH.nil
            refine AllReadyH.cons (by simp only [List.getElem?_toArray, List.getElem?_cons_succ, List.getElem?_cons_zero]; first | done | rfl) (fun K hK => ?_) ?_
            · skip
              refine step_call rfl (num_u g b 2 _ (RdI.rdr (by repeat (first | exact HI.out | apply RdI.drew | apply RdI.drewN | apply RdI.alloc))) hl) (by go_simp) ?_
              rintro e v2 ⟨rfl, hr, hg⟩
              refine ⟨_, rfl, ?_⟩
              have HI' := Lib.hid (RdI.read (z' := ust b 3) (by repeat (first | exact HI.out | apply RdI.drew | apply RdI.drewN | apply RdI.alloc)) hr hg)
              have HO' := Lib.hid (Own.grownG (by repeat (first | exact HO.out | apply own_drew | apply own_drewN' | apply Own.alloc)) hg)
              clear hr hg
              have HI := HI'
              have HO := HO'
              clear HI' HO'
              refine hK.out _ _ ?_ (fun hHeld => ?_)
              · (try dsimp only); (first | done | trivial)
              clear hK K
              try simp only [Act.put, List.setIfInBounds_toArray, List.set_cons_zero, List.set_cons_succ]
              refine wpAnyH_ready (rs := [2, 10, 12]) (by kernel_rfl) (by simp) ?_
              refine AllReadyH.cons (by simp only [List.getElem?_toArray, List.getElem?_cons_succ, List.getElem?_cons_zero]; first | done | rfl) (fun K hK => ?_) ?_
              · skip
                refine step_conv_bs rfl (.tmp 13) rfl rfl (Own.rd (by repeat (first | exact HO.out | apply own_drew | apply own_drewN' | apply Own.alloc))) ?_
                refine hK.out _ _ ?_ (fun hHeld => ?_)
                · (try dsimp only); (first | done | trivial)
                clear hK K
                try simp only [Act.put, List.setIfInBounds_toArray, List.set_cons_zero, List.set_cons_succ]
                refine wpAnyH_ready (rs := [10, 12]) (by kernel_rfl) (by simp) ?_
                refine AllReadyH.cons (by simp only [List.getElem?_toArray, List.getElem?_cons_succ, List.getElem?_cons_zero]; first | done | rfl) (fun K hK => ?_) ?_
                · skip
                  refine step_call rfl (nearU_any (ust b 2).num _ (RS.num_bd _).1 (RS.num_bd _).2) (by go_simp) ?_
                  rintro e _ ⟨rfl, rfl⟩
                  refine ⟨_, rfl, ?_⟩
                  refine hK.out _ _ ?_ (fun hHeld => ?_)
                  · (try dsimp only); (first | done | trivial)
                  clear hK K
                  try simp only [Act.put, List.setIfInBounds_toArray, List.set_cons_zero, List.set_cons_succ]
                  refine wpAnyH_take (i := 11) (v := ?_) (by simp only [List.getElem?_toArray, List.getElem?_cons_succ, List.getElem?_cons_zero]; first | done | rfl) (by kernel_rfl) (by kernel_rfl) (by kernel_rfl) (fun _ _ _ h => h) (Or.inl ⟨by rfl, ?hy⟩) (by assumption) ?_
                  case hy => (intro w hSw; (try dsimp only at hSw); go_simp; all_goals with_reducible rfl)
                  try simp only [Act.put, List.setIfInBounds_toArray, List.set_cons_zero, List.set_cons_succ]
                  refine wpAnyH_ready (rs := [12]) (by kernel_rfl) (by simp) ?_
                  refine AllReadyH.cons (by simp only [List.getElem?_toArray, List.getElem?_cons_succ, List.getElem?_cons_zero]; first | done | rfl) (fun K hK => ?_) ?_
                  · skip
                    refine step_value rfl (run_alloc_op rfl (run_alloc_up _)) ?_
                    try dsimp only
                    obtain ⟨g5, hg5⟩ : ∃ g5, g5 = v2.heap.size := ⟨_, rfl⟩
                    try rw [show v2.drew.heap.size = v2.heap.size from rfl]
                    rw [← hg5]
                    refine k_world (fun W' => UA g5 zeroU W' ∧ RdI w W' g (ust b 3) ∧ g < g5) ⟨(by rw [hg5]; first | exact UA.new zeroU _ | exact (UA.new zeroU _).drew), (by repeat (first | exact HI.out | apply RdI.drew | apply RdI.drewN | apply RdI.alloc)), (by rw [hg5]; exact RdI.glt (by repeat (first | exact HI.out | apply RdI.drew | apply RdI.drewN | apply RdI.alloc)))⟩ ?_
                    rintro v2 ⟨hu, hi, hgg⟩
                    have HU := Lib.hid hu
                    have HGG := Lib.hid hgg
                    clear HI
                    have HI := Lib.hid hi
                    clear hu hi hgg hg5
                    refine hK.out _ _ ?_ (fun hHeld => ?_)
                    · (try dsimp only); (first | done | trivial)
                    clear hK K
                    try simp only [Act.put, List.setIfInBounds_toArray, List.set_cons_zero, List.set_cons_succ]
                    refine wpAnyH_ready (rs := [13]) (by kernel_rfl) (by simp) ?_
                    refine AllReadyH.cons (by simp only [List.getElem?_toArray, List.getElem?_cons_succ, List.getElem?_cons_zero]; first | done | rfl) (fun K hK => ?_) ?_
                    · skip
                      refine step_store_up rfl (.tmp 5) (.tmp 23) rfl g5 (preU b) rfl rfl zeroU (by repeat (first | exact HU.out | apply UA.drew | apply UA.drewN | apply UA.alloc)) ?_
                      intro v2 hv2
                      have HG := Lib.hid (show RdI w v2 g (ust b 3) ∧ UA g5 (preU b) v2 from ⟨by rw [hv2]; exact RdI.setRow (by repeat (first | exact HI.out | apply RdI.drew | apply RdI.drewN | apply RdI.alloc)) HGG.out _, by rw [hv2]; exact ⟨setRow_heap _ _ _ _ _ _ (UA.row (by repeat (first | exact HU.out | apply UA.drew | apply UA.drewN | apply UA.alloc)))⟩⟩)
                      clear hv2
                      refine hK.out _ _ ?_ (fun hHeld => ?_)
                      · (try dsimp only); (first | done | trivial)
                      clear hK K
                      try simp only [Act.put, List.setIfInBounds_toArray, List.set_cons_zero, List.set_cons_succ]
                      refine wpAnyH_done (by kernel_rfl) ?_ _
                      refine NoPanic.normal ?_
                      go_wp2_with fail
                      go_meet
                      exact ⟨g5, rfl, HG.out.1, HG.out.2, HGG.out⟩
                    exact AllReadyH.nil
                  exact AllReadyH.nil
                refine AllReadyH.cons (by simp only [List.getElem?_toArray, List.getElem?_cons_succ, List.getElem?_cons_zero]; first | done | rfl) (fun K hK => ?_) ?_
                · skip
                  refine step_value rfl (run_alloc_op rfl (run_alloc_up _)) ?_
                  try dsimp only
                  obtain ⟨g5, hg5⟩ : ∃ g5, g5 = v2.heap.size := ⟨_, rfl⟩
                  try rw [show v2.drew.heap.size = v2.heap.size from rfl]
                  rw [← hg5]
                  refine k_world (fun W' => UA g5 zeroU W' ∧ RdI w W' g (ust b 3) ∧ g < g5) ⟨(by rw [hg5]; first | exact UA.new zeroU _ | exact (UA.new zeroU _).drew), (by repeat (first | exact HI.out | apply RdI.drew | apply RdI.drewN | apply RdI.alloc)), (by rw [hg5]; exact RdI.glt (by repeat (first | exact HI.out | apply RdI.drew | apply RdI.drewN | apply RdI.alloc)))⟩ ?_
                  rintro v2 ⟨hu, hi, hgg⟩
                  have HU := Lib.hid hu
                  have HGG := Lib.hid hgg
                  clear HI
                  have HI := Lib.hid hi
                  clear hu hi hgg hg5
                  refine hK.out _ _ ?_ (fun hHeld => ?_)
                  · (try dsimp only); (first | done | trivial)
                  clear hK K
                  try simp only [Act.put, List.setIfInBounds_toArray, List.set_cons_zero, List.set_cons_succ]
                  refine wpAnyH_ready (rs := [10]) (by kernel_rfl) (by simp) ?_
                  refine AllReadyH.cons (by simp only [List.getElem?_toArray, List.getElem?_cons_succ, List.getElem?_cons_zero]; first | done | rfl) (fun K hK => ?_) ?_
                  · skip
                    refine step_call rfl (nearU_any (ust b 2).num _ (RS.num_bd _).1 (RS.num_bd _).2) (by go_simp) ?_
                    rintro e _ ⟨rfl, rfl⟩
                    refine ⟨_, rfl, ?_⟩
                    refine hK.out _ _ ?_ (fun hHeld => ?_)
                    · (try dsimp only); (first | done | trivial)
                    clear hK K
                    try simp only [Act.put, List.setIfInBounds_toArray, List.set_cons_zero, List.set_cons_succ]
                    refine wpAnyH_take (i := 11) (v := ?_) (by simp only [List.getElem?_toArray, List.getElem?_cons_succ, List.getElem?_cons_zero]; first | done | rfl) (by kernel_rfl) (by kernel_rfl) (by kernel_rfl) (fun _ _ _ h => h) (Or.inl ⟨by rfl, ?hy⟩) (by assumption) ?_
                    case hy => (intro w hSw; (try dsimp only at hSw); go_simp; all_goals with_reducible rfl)
                    try simp only [Act.put, List.setIfInBounds_toArray, List.set_cons_zero, List.set_cons_succ]
                    refine wpAnyH_ready (rs := [13]) (by kernel_rfl) (by simp) ?_
                    refine AllReadyH.cons (by simp only [List.getElem?_toArray, List.getElem?_cons_succ, List.getElem?_cons_zero]; first | done | rfl) (fun K hK => ?_) ?_
                    · skip
                      refine step_store_up rfl (.tmp 5) (.tmp 23) rfl g5 (preU b) rfl rfl zeroU (by repeat (first | exact HU.out | apply UA.drew | apply UA.drewN | apply UA.alloc)) ?_
                      intro v2 hv2
                      have HG := Lib.hid (show RdI w v2 g (ust b 3) ∧ UA g5 (preU b) v2 from ⟨by rw [hv2]; exact RdI.setRow (by repeat (first | exact HI.out | apply RdI.drew | apply RdI.drewN | apply RdI.alloc)) HGG.out _, by rw [hv2]; exact ⟨setRow_heap _ _ _ _ _ _ (UA.row (by repeat (first | exact HU.out | apply UA.drew | apply UA.drewN | apply UA.alloc)))⟩⟩)
                      clear hv2
                      refine hK.out _ _ ?_ (fun hHeld => ?_)
                      · (try dsimp only); (first | done | trivial)
                      clear hK K
                      try simp only [Act.put, List.setIfInBounds_toArray, List.set_cons_zero, List.set_cons_succ]
                      refine wpAnyH_done (by kernel_rfl) ?_ _
                      refine NoPanic.normal ?_
                      go_wp2_with fail
                      go_meet
                      exact ⟨g5, rfl, HG.out.1, HG.out.2, HGG.out⟩
                    exact AllReadyH.nil
                  exact AllReadyH.nil
                exact AllReadyH.nil
              refine AllReadyH.cons (by simp only [List.getElem?_toArray, List.getElem?_cons_succ, List.getElem?_cons_zero]; first | done | rfl) (fun K hK => ?_) ?_
              · skip
                refine step_call rfl (nearU_any (ust b 2).num _ (RS.num_bd _).1 (RS.num_bd _).2) (by go_simp) ?_
                rintro e _ ⟨rfl, rfl⟩
                refine ⟨_, rfl, ?_⟩
                refine hK.out _ _ ?_ (fun hHeld => ?_)
                · (try dsimp only); (first | done | trivial)
                clear hK K
                try simp only [Act.put, List.setIfInBounds_toArray, List.set_cons_zero, List.set_cons_succ]
                refine wpAnyH_ready (rs := [2, 12]) (by kernel_rfl) (by simp) ?_
                refine AllReadyH.cons (by simp only [List.getElem?_toArray, List.getElem?_cons_succ, List.getElem?_cons_zero]; first | done | rfl) (fun K hK => ?_) ?_
                · skip
                  refine step_conv_bs rfl (.tmp 13) rfl rfl (Own.rd (by repeat (first | exact HO.out | apply own_drew | apply own_drewN' | apply Own.alloc))) ?_
                  refine hK.out _ _ ?_ (fun hHeld => ?_)
                  · (try dsimp only); (first | done | trivial)
                  clear hK K
                  try simp only [Act.put, List.setIfInBounds_toArray, List.set_cons_zero, List.set_cons_succ]
                  refine wpAnyH_take (i := 11) (v := ?_) (by simp only [List.getElem?_toArray, List.getElem?_cons_succ, List.getElem?_cons_zero]; first | done | rfl) (by kernel_rfl) (by kernel_rfl) (by kernel_rfl) (fun _ _ _ h => h) (Or.inl ⟨by rfl, ?hy⟩) (by assumption) ?_
                  case hy => (intro w hSw; (try dsimp only at hSw); go_simp; all_goals with_reducible rfl)
                  try simp only [Act.put, List.setIfInBounds_toArray, List.set_cons_zero, List.set_cons_succ]
                  refine wpAnyH_ready (rs := [12]) (by kernel_rfl) (by simp) ?_
                  refine AllReadyH.cons (by simp only [List.getElem?_toArray, List.getElem?_cons_succ, List.getElem?_cons_zero]; first | done | rfl) (fun K hK => ?_) ?_
                  · skip
                    refine step_value rfl (run_alloc_op rfl (run_alloc_up _)) ?_
                    try dsimp only
                    obtain ⟨g5, hg5⟩ : ∃ g5, g5 = v2.heap.size := ⟨_, rfl⟩
                    try rw [show v2.drew.heap.size = v2.heap.size from rfl]
                    rw [← hg5]
                    refine k_world (fun W' => UA g5 zeroU W' ∧ RdI w W' g (ust b 3) ∧ g < g5) ⟨(by rw [hg5]; first | exact UA.new zeroU _ | exact (UA.new zeroU _).drew), (by repeat (first | exact HI.out | apply RdI.drew | apply RdI.drewN | apply RdI.alloc)), (by rw [hg5]; exact RdI.glt (by repeat (first | exact HI.out | apply RdI.drew | apply RdI.drewN | apply RdI.alloc)))⟩ ?_
                    rintro v2 ⟨hu, hi, hgg⟩
                    have HU := Lib.hid hu
                    have HGG := Lib.hid hgg
                    clear HI
                    have HI := Lib.hid hi
                    clear hu hi hgg hg5
                    refine hK.out _ _ ?_ (fun hHeld => ?_)
                    · (try dsimp only); (first | done | trivial)
                    clear hK K
                    try simp only [Act.put, List.setIfInBounds_toArray, List.set_cons_zero, List.set_cons_succ]
                    refine wpAnyH_ready (rs := [13]) (by kernel_rfl) (by simp) ?_
                    refine AllReadyH.cons (by simp only [List.getElem?_toArray, List.getElem?_cons_succ, List.getElem?_cons_zero]; first | done | rfl) (fun K hK => ?_) ?_
                    · skip
                      refine step_store_up rfl (.tmp 5) (.tmp 23) rfl g5 (preU b) rfl rfl zeroU (by repeat (first | exact HU.out | apply UA.drew | apply UA.drewN | apply UA.alloc)) ?_
                      intro v2 hv2
                      have HG := Lib.hid (show RdI w v2 g (ust b 3) ∧ UA g5 (preU b) v2 from ⟨by rw [hv2]; exact RdI.setRow (by repeat (first | exact HI.out | apply RdI.drew | apply RdI.drewN | apply RdI.alloc)) HGG.out _, by rw [hv2]; exact ⟨setRow_heap _ _ _ _ _ _ (UA.row (by repeat (first | exact HU.out | apply UA.drew | apply UA.drewN | apply UA.alloc)))⟩⟩)
                      clear hv2
                      refine hK.out _ _ ?_ (fun hHeld => ?_)
                      · (try dsimp only); (first | done | trivial)
                      clear hK K
                      try simp only [Act.put, List.setIfInBounds_toArray, List.set_cons_zero, List.set_cons_succ]
                      refine wpAnyH_done (by kernel_rfl) ?_ _
                      refine NoPanic.normal ?_
                      go_wp2_with fail
                      go_meet
                      exact ⟨g5, rfl, HG.out.1, HG.out.2, HGG.out⟩
                    exact AllReadyH.nil
                  exact AllReadyH.nil
                refine AllReadyH.cons (by simp only [List.getElem?_toArray, List.getElem?_cons_succ, List.getElem?_cons_zero]; first | done | rfl) (fun K hK => ?_) ?_
                · skip
                  refine step_value rfl (run_alloc_op rfl (run_alloc_up _)) ?_
                  try dsimp only
                  obtain ⟨g5, hg5⟩ : ∃ g5, g5 = v2.heap.size := ⟨_, rfl⟩
                  try rw [show v2.drew.heap.size = v2.heap.size from rfl]
                  rw [← hg5]
                  refine k_world (fun W' => UA g5 zeroU W' ∧ RdI w W' g (ust b 3) ∧ g < g5 ∧ Own W' (g + 1) (.slice b2 (lmpOut 32 b 0).length c2) (lmpOut 32 b 0)) ⟨(by rw [hg5]; first | exact UA.new zeroU _ | exact (UA.new zeroU _).drew), (by repeat (first | exact HI.out | apply RdI.drew | apply RdI.drewN | apply RdI.alloc)), (by rw [hg5]; exact RdI.glt (by repeat (first | exact HI.out | apply RdI.drew | apply RdI.drewN | apply RdI.alloc))), (by repeat (first | exact HO.out | apply own_drew | apply own_drewN' | apply Own.alloc))⟩ ?_
                  rintro v2 ⟨hu, hi, hgg, ho⟩
                  have HU := Lib.hid hu
                  have HGG := Lib.hid hgg
                  clear HI
                  have HI := Lib.hid hi
                  clear HO
                  have HO := Lib.hid ho
                  clear ho
                  clear hu hi hgg hg5
                  refine hK.out _ _ ?_ (fun hHeld => ?_)
                  · (try dsimp only); (first | done | trivial)
                  clear hK K
                  try simp only [Act.put, List.setIfInBounds_toArray, List.set_cons_zero, List.set_cons_succ]
                  refine wpAnyH_ready (rs := [2]) (by kernel_rfl) (by simp) ?_
                  refine AllReadyH.cons (by simp only [List.getElem?_toArray, List.getElem?_cons_succ, List.getElem?_cons_zero]; first | done | rfl) (fun K hK => ?_) ?_
                  · skip
                    refine step_conv_bs rfl (.tmp 13) rfl rfl (Own.rd (by repeat (first | exact HO.out | apply own_drew | apply own_drewN' | apply Own.alloc))) ?_
                    refine hK.out _ _ ?_ (fun hHeld => ?_)
                    · (try dsimp only); (first | done | trivial)
                    clear hK K
                    try simp only [Act.put, List.setIfInBounds_toArray, List.set_cons_zero, List.set_cons_succ]
                    refine wpAnyH_take (i := 11) (v := ?_) (by simp only [List.getElem?_toArray, List.getElem?_cons_succ, List.getElem?_cons_zero]; first | done | rfl) (by kernel_rfl) (by kernel_rfl) (by kernel_rfl) (fun _ _ _ h => h) (Or.inl ⟨by rfl, ?hy⟩) (by assumption) ?_
                    case hy => (intro w hSw; (try dsimp only at hSw); go_simp; all_goals with_reducible rfl)
                    try simp only [Act.put, List.setIfInBounds_toArray, List.set_cons_zero, List.set_cons_succ]
                    refine wpAnyH_ready (rs := [13]) (by kernel_rfl) (by simp) ?_
                    refine AllReadyH.cons (by simp only [List.getElem?_toArray, List.getElem?_cons_succ, List.getElem?_cons_zero]; first | done | rfl) (fun K hK => ?_) ?_
                    · skip
                      refine step_store_up rfl (.tmp 5) (.tmp 23) rfl g5 (preU b) rfl rfl zeroU (by repeat (first | exact HU.out | apply UA.drew | apply UA.drewN | apply UA.alloc)) ?_
                      intro v2 hv2
                      have HG := Lib.hid (show RdI w v2 g (ust b 3) ∧ UA g5 (preU b) v2 from ⟨by rw [hv2]; exact RdI.setRow (by repeat (first | exact HI.out | apply RdI.drew | apply RdI.drewN | apply RdI.alloc)) HGG.out _, by rw [hv2]; exact ⟨setRow_heap _ _ _ _ _ _ (UA.row (by repeat (first | exact HU.out | apply UA.drew | apply UA.drewN | apply UA.alloc)))⟩⟩)
                      clear hv2
                      refine hK.out _ _ ?_ (fun hHeld => ?_)
                      · (try dsimp only); (first | done | trivial)
                      clear hK K
                      try simp only [Act.put, List.setIfInBounds_toArray, List.set_cons_zero, List.set_cons_succ]
                      refine wpAnyH_done (by kernel_rfl) ?_ _
                      refine NoPanic.normal ?_
                      go_wp2_with fail
                      go_meet
                      exact ⟨g5, rfl, HG.out.1, HG.out.2, HGG.out⟩
                    exact AllReadyH.nil
                  exact AllReadyH.nil
                exact AllReadyH.nil
              refine AllReadyH.cons (by simp only [List.getElem?_toArray, List.getElem?_cons_succ, List.getElem?_cons_zero]; first | done | rfl) (fun K hK => ?_) ?_
              · skip
                refine step_value rfl (run_alloc_op rfl (run_alloc_up _)) ?_
                try dsimp only
                obtain ⟨g5, hg5⟩ : ∃ g5, g5 = v2.heap.size := ⟨_, rfl⟩
                try rw [show v2.drew.heap.size = v2.heap.size from rfl]
                rw [← hg5]
                refine k_world (fun W' => UA g5 zeroU W' ∧ RdI w W' g (ust b 3) ∧ g < g5 ∧ Own W' (g + 1) (.slice b2 (lmpOut 32 b 0).length c2) (lmpOut 32 b 0)) ⟨(by rw [hg5]; first | exact UA.new zeroU _ | exact (UA.new zeroU _).drew), (by repeat (first | exact HI.out | apply RdI.drew | apply RdI.drewN | apply RdI.alloc)), (by rw [hg5]; exact RdI.glt (by repeat (first | exact HI.out | apply RdI.drew | apply RdI.drewN | apply RdI.alloc))), (by repeat (first | exact HO.out | apply own_drew | apply own_drewN' | apply Own.alloc))⟩ ?_
                rintro v2 ⟨hu, hi, hgg, ho⟩
                have HU := Lib.hid hu
                have HGG := Lib.hid hgg
                clear HI
                have HI := Lib.hid hi
                clear HO
                have HO := Lib.hid ho
                clear ho
                clear hu hi hgg hg5
                refine hK.out _ _ ?_ (fun hHeld => ?_)
                · (try dsimp only); (first | done | trivial)
                clear hK K
                try simp only [Act.put, List.setIfInBounds_toArray, List.set_cons_zero, List.set_cons_succ]
                refine wpAnyH_ready (rs := [2, 10]) (by kernel_rfl) (by simp) ?_
                refine AllReadyH.cons (by simp only [List.getElem?_toArray, List.getElem?_cons_succ, List.getElem?_cons_zero]; first | done | rfl) (fun K hK => ?_) ?_
                · skip
                  refine step_conv_bs rfl (.tmp 13) rfl rfl (Own.rd (by repeat (first | exact HO.out | apply own_drew | apply own_drewN' | apply Own.alloc))) ?_
                  refine hK.out _ _ ?_ (fun hHeld => ?_)
                  · (try dsimp only); (first | done | trivial)
                  clear hK K
                  try simp only [Act.put, List.setIfInBounds_toArray, List.set_cons_zero, List.set_cons_succ]
                  refine wpAnyH_ready (rs := [10]) (by kernel_rfl) (by simp) ?_
                  refine AllReadyH.cons (by simp only [List.getElem?_toArray, List.getElem?_cons_succ, List.getElem?_cons_zero]; first | done | rfl) (fun K hK => ?_) ?_
                  · skip
                    refine step_call rfl (nearU_any (ust b 2).num _ (RS.num_bd _).1 (RS.num_bd _).2) (by go_simp) ?_
                    rintro e _ ⟨rfl, rfl⟩
                    refine ⟨_, rfl, ?_⟩
                    refine hK.out _ _ ?_ (fun hHeld => ?_)
                    · (try dsimp only); (first | done | trivial)
                    clear hK K
                    try simp only [Act.put, List.setIfInBounds_toArray, List.set_cons_zero, List.set_cons_succ]
                    refine wpAnyH_take (i := 11) (v := ?_) (by simp only [List.getElem?_toArray, List.getElem?_cons_succ, List.getElem?_cons_zero]; first | done | rfl) (by kernel_rfl) (by kernel_rfl) (by kernel_rfl) (fun _ _ _ h => h) (Or.inl ⟨by rfl, ?hy⟩) (by assumption) ?_
                    case hy => (intro w hSw; (try dsimp only at hSw); go_simp; all_goals with_reducible rfl)
                    try simp only [Act.put, List.setIfInBounds_toArray, List.set_cons_zero, List.set_cons_succ]
                    refine wpAnyH_ready (rs := [13]) (by kernel_rfl) (by simp) ?_
                    refine AllReadyH.cons (by simp only [List.getElem?_toArray, List.getElem?_cons_succ, List.getElem?_cons_zero]; first | done | rfl) (fun K hK => ?_) ?_
                    · skip
                      refine step_store_up rfl (.tmp 5) (.tmp 23) rfl g5 (preU b) rfl rfl zeroU (by repeat (first | exact HU.out | apply UA.drew | apply UA.drewN | apply UA.alloc)) ?_
                      intro v2 hv2
                      have HG := Lib.hid (show RdI w v2 g (ust b 3) ∧ UA g5 (preU b) v2 from ⟨by rw [hv2]; exact RdI.setRow (by repeat (first | exact HI.out | apply RdI.drew | apply RdI.drewN | apply RdI.alloc)) HGG.out _, by rw [hv2]; exact ⟨setRow_heap _ _ _ _ _ _ (UA.row (by repeat (first | exact HU.out | apply UA.drew | apply UA.drewN | apply UA.alloc)))⟩⟩)
                      clear hv2
                      refine hK.out _ _ ?_ (fun hHeld => ?_)
                      · (try dsimp only); (first | done | trivial)
                      clear hK K
                      try simp only [Act.put, List.setIfInBounds_toArray, List.set_cons_zero, List.set_cons_succ]
                      refine wpAnyH_done (by kernel_rfl) ?_ _
                      refine NoPanic.normal ?_
                      go_wp2_with fail
                      go_meet
                      exact ⟨g5, rfl, HG.out.1, HG.out.2, HGG.out⟩
                    exact AllReadyH.nil
                  exact AllReadyH.nil
                refine AllReadyH.cons (by simp only [List.getElem?_toArray, List.getElem?_cons_succ, List.getElem?_cons_zero]; first | done | rfl) (fun K hK => ?_) ?_
                · skip
                  refine step_call rfl (nearU_any (ust b 2).num _ (RS.num_bd _).1 (RS.num_bd _).2) (by go_simp) ?_
                  rintro e _ ⟨rfl, rfl⟩
                  refine ⟨_, rfl, ?_⟩
                  refine hK.out _ _ ?_ (fun hHeld => ?_)
                  · (try dsimp only); (first | done | trivial)
                  clear hK K
                  try simp only [Act.put, List.setIfInBounds_toArray, List.set_cons_zero, List.set_cons_succ]
                  refine wpAnyH_ready (rs := [2]) (by kernel_rfl) (by simp) ?_
                  refine AllReadyH.cons (by simp only [List.getElem?_toArray, List.getElem?_cons_succ, List.getElem?_cons_zero]; first | done | rfl) (fun K hK => ?_) ?_
                  · skip
                    refine step_conv_bs rfl (.tmp 13) rfl rfl (Own.rd (by repeat (first | exact HO.out | apply own_drew | apply own_drewN' | apply Own.alloc))) ?_
                    refine hK.out _ _ ?_ (fun hHeld => ?_)
                    · (try dsimp only); (first | done | trivial)
                    clear hK K
                    try simp only [Act.put, List.setIfInBounds_toArray, List.set_cons_zero, List.set_cons_succ]
                    refine wpAnyH_take (i := 11) (v := ?_) (by simp only [List.getElem?_toArray, List.getElem?_cons_succ, List.getElem?_cons_zero]; first | done | rfl) (by kernel_rfl) (by kernel_rfl) (by kernel_rfl) (fun _ _ _ h => h) (Or.inl ⟨by rfl, ?hy⟩) (by assumption) ?_
                    case hy => (intro w hSw; (try dsimp only at hSw); go_simp; all_goals with_reducible rfl)
                    try simp only [Act.put, List.setIfInBounds_toArray, List.set_cons_zero, List.set_cons_succ]
                    refine wpAnyH_ready (rs := [13]) (by kernel_rfl) (by simp) ?_
                    refine AllReadyH.cons (by simp only [List.getElem?_toArray, List.getElem?_cons_succ, List.getElem?_cons_zero]; first | done | rfl) (fun K hK => ?_) ?_
                    · skip
                      refine step_store_up rfl (.tmp 5) (.tmp 23) rfl g5 (preU b) rfl rfl zeroU (by repeat (first | exact HU.out | apply UA.drew | apply UA.drewN | apply UA.alloc)) ?_
                      intro v2 hv2
                      have HG := Lib.hid (show RdI w v2 g (ust b 3) ∧ UA g5 (preU b) v2 from ⟨by rw [hv2]; exact RdI.setRow (by repeat (first | exact HI.out | apply RdI.drew | apply RdI.drewN | apply RdI.alloc)) HGG.out _, by rw [hv2]; exact ⟨setRow_heap _ _ _ _ _ _ (UA.row (by repeat (first | exact HU.out | apply UA.drew | apply UA.drewN | apply UA.alloc)))⟩⟩)
                      clear hv2
                      refine hK.out _ _ ?_ (fun hHeld => ?_)
                      · (try dsimp only); (first | done | trivial)
                      clear hK K
                      try simp only [Act.put, List.setIfInBounds_toArray, List.set_cons_zero, List.set_cons_succ]
                      refine wpAnyH_done (by kernel_rfl) ?_ _
                      refine NoPanic.normal ?_
                      go_wp2_with fail
                      go_meet
                      exact ⟨g5, rfl, HG.out.1, HG.out.2, HGG.out⟩
                    exact AllReadyH.nil
                  exact AllReadyH.nil
                exact AllReadyH.nil
              exact AllReadyH.nil
            refine AllReadyH.cons (by simp only [List.getElem?_toArray, List.getElem?_cons_succ, List.getElem?_cons_zero]; first | done | rfl) (fun K hK => ?_) ?_
            · skip
              refine step_value rfl (run_alloc_op rfl (run_alloc_up _)) ?_
              try dsimp only
              obtain ⟨g5, hg5⟩ : ∃ g5, g5 = v2.heap.size := ⟨_, rfl⟩
              try rw [show v2.drew.heap.size = v2.heap.size from rfl]
              rw [← hg5]
              refine k_world (fun W' => UA g5 zeroU W' ∧ RdI w W' g (ust b 2) ∧ g < g5 ∧ Own W' (g + 1) (.slice b2 (lmpOut 32 b 0).length c2) (lmpOut 32 b 0)) ⟨(by rw [hg5]; first | exact UA.new zeroU _ | exact (UA.new zeroU _).drew), (by repeat (first | exact HI.out | apply RdI.drew | apply RdI.drewN | apply RdI.alloc)), (by rw [hg5]; exact RdI.glt (by repeat (first | exact HI.out | apply RdI.drew | apply RdI.drewN | apply RdI.alloc))), (by repeat (first | exact HO.out | apply own_drew | apply own_drewN' | apply Own.alloc))⟩ ?_
              rintro v2 ⟨hu, hi, hgg, ho⟩
              have HU := Lib.hid hu
              have HGG := Lib.hid hgg
              clear HI
              have HI := Lib.hid hi
              clear HO
              have HO := Lib.hid ho
              clear ho
              clear hu hi hgg hg5
              refine hK.out _ _ ?_ (fun hHeld => ?_)
              · (try dsimp only); (first | done | trivial)
              clear hK K
              try simp only [Act.put, List.setIfInBounds_toArray, List.set_cons_zero, List.set_cons_succ]
              refine wpAnyH_ready (rs := [2, 9]) (by kernel_rfl) (by simp) ?_
              refine AllReadyH.cons (by simp only [List.getElem?_toArray, List.getElem?_cons_succ, List.getElem?_cons_zero]; first | done | rfl) (fun K hK => ?_) ?_
              · skip
                refine step_conv_bs rfl (.tmp 13) rfl rfl (Own.rd (by repeat (first | exact HO.out | apply own_drew | apply own_drewN' | apply Own.alloc))) ?_
                refine hK.out _ _ ?_ (fun hHeld => ?_)
                · (try dsimp only); (first | done | trivial)
                clear hK K
                try simp only [Act.put, List.setIfInBounds_toArray, List.set_cons_zero, List.set_cons_succ]
                refine wpAnyH_ready (rs := [9]) (by kernel_rfl) (by simp) ?_
                refine AllReadyH.cons (by simp only [List.getElem?_toArray, List.getElem?_cons_succ, List.getElem?_cons_zero]; first | done | rfl) (fun K hK => ?_) ?_
                · skip
                  refine step_call rfl (num_u g b 2 _ (RdI.rdr (by repeat (first | exact HI.out | apply RdI.drew | apply RdI.drewN | apply RdI.alloc))) hl) (by go_simp) ?_
                  rintro e v2 ⟨rfl, hr, hg⟩
                  refine ⟨_, rfl, ?_⟩
                  have HI' := Lib.hid (RdI.read (z' := ust b 3) (by repeat (first | exact HI.out | apply RdI.drew | apply RdI.drewN | apply RdI.alloc)) hr hg)
                  have HU' := Lib.hid (UA.grown (by repeat (first | exact HU.out | apply UA.drew | apply UA.drewN | apply UA.alloc)) hg (fun e => by have := HGG.out; simp at e; omega))
                  clear hr hg
                  have HI := HI'
                  have HU := HU'
                  clear HI' HU'
                  refine hK.out _ _ ?_ (fun hHeld => ?_)
                  · (try dsimp only); (first | done | trivial)
                  clear hK K
                  try simp only [Act.put, List.setIfInBounds_toArray, List.set_cons_zero, List.set_cons_succ]
                  refine wpAnyH_ready (rs := [10]) (by kernel_rfl) (by simp) ?_
                  refine AllReadyH.cons (by simp only [List.getElem?_toArray, List.getElem?_cons_succ, List.getElem?_cons_zero]; first | done | rfl) (fun K hK => ?_) ?_
                  · skip
                    refine step_call rfl (nearU_any (ust b 2).num _ (RS.num_bd _).1 (RS.num_bd _).2) (by go_simp) ?_
                    rintro e _ ⟨rfl, rfl⟩
                    refine ⟨_, rfl, ?_⟩
                    refine hK.out _ _ ?_ (fun hHeld => ?_)
                    · (try dsimp only); (first | done | trivial)
                    clear hK K
                    try simp only [Act.put, List.setIfInBounds_toArray, List.set_cons_zero, List.set_cons_succ]
                    refine wpAnyH_take (i := 11) (v := ?_) (by simp only [List.getElem?_toArray, List.getElem?_cons_succ, List.getElem?_cons_zero]; first | done | rfl) (by kernel_rfl) (by kernel_rfl) (by kernel_rfl) (fun _ _ _ h => h) (Or.inl ⟨by rfl, ?hy⟩) (by assumption) ?_
                    case hy => (intro w hSw; (try dsimp only at hSw); go_simp; all_goals with_reducible rfl)
                    try simp only [Act.put, List.setIfInBounds_toArray, List.set_cons_zero, List.set_cons_succ]
                    refine wpAnyH_ready (rs := [13]) (by kernel_rfl) (by simp) ?_
                    refine AllReadyH.cons (by simp only [List.getElem?_toArray, List.getElem?_cons_succ, List.getElem?_cons_zero]; first | done | rfl) (fun K hK => ?_) ?_
                    · skip
                      refine step_store_up rfl (.tmp 5) (.tmp 23) rfl g5 (preU b) rfl rfl zeroU (by repeat (first | exact HU.out | apply UA.drew | apply UA.drewN | apply UA.alloc)) ?_
                      intro v2 hv2
                      have HG := Lib.hid (show RdI w v2 g (ust b 3) ∧ UA g5 (preU b) v2 from ⟨by rw [hv2]; exact RdI.setRow (by repeat (first | exact HI.out | apply RdI.drew | apply RdI.drewN | apply RdI.alloc)) HGG.out _, by rw [hv2]; exact ⟨setRow_heap _ _ _ _ _ _ (UA.row (by repeat (first | exact HU.out | apply UA.drew | apply UA.drewN | apply UA.alloc)))⟩⟩)
                      clear hv2
                      refine hK.out _ _ ?_ (fun hHeld => ?_)
                      · (try dsimp only); (first | done | trivial)
                      clear hK K
                      try simp only [Act.put, List.setIfInBounds_toArray, List.set_cons_zero, List.set_cons_succ]
                      refine wpAnyH_done (by kernel_rfl) ?_ _
                      refine NoPanic.normal ?_
                      go_wp2_with fail
                      go_meet
                      exact ⟨g5, rfl, HG.out.1, HG.out.2, HGG.out⟩
                    exact AllReadyH.nil
                  exact AllReadyH.nil
                exact AllReadyH.nil
              refine AllReadyH.cons (by simp only [List.getElem?_toArray, List.getElem?_cons_succ, List.getElem?_cons_zero]; first | done | rfl) (fun K hK => ?_) ?_
              · skip
                refine step_call rfl (num_u g b 2 _ (RdI.rdr (by repeat (first | exact HI.out | apply RdI.drew | apply RdI.drewN | apply RdI.alloc))) hl) (by go_simp) ?_
                rintro e v2 ⟨rfl, hr, hg⟩
                refine ⟨_, rfl, ?_⟩
                have HI' := Lib.hid (RdI.read (z' := ust b 3) (by repeat (first | exact HI.out | apply RdI.drew | apply RdI.drewN | apply RdI.alloc)) hr hg)
                have HO' := Lib.hid (Own.grownG (by repeat (first | exact HO.out | apply own_drew | apply own_drewN' | apply Own.alloc)) hg)
                have HU' := Lib.hid (UA.grown (by repeat (first | exact HU.out | apply UA.drew | apply UA.drewN | apply UA.alloc)) hg (fun e => by have := HGG.out; simp at e; omega))
                clear hr hg
                have HI := HI'
                have HO := HO'
                have HU := HU'
                clear HI' HO' HU'
                refine hK.out _ _ ?_ (fun hHeld => ?_)
                · (try dsimp only); (first | done | trivial)
                clear hK K
                try simp only [Act.put, List.setIfInBounds_toArray, List.set_cons_zero, List.set_cons_succ]
                refine wpAnyH_ready (rs := [2, 10]) (by kernel_rfl) (by simp) ?_
                refine AllReadyH.cons (by simp only [List.getElem?_toArray, List.getElem?_cons_succ, List.getElem?_cons_zero]; first | done | rfl) (fun K hK => ?_) ?_
                · skip
                  refine step_conv_bs rfl (.tmp 13) rfl rfl (Own.rd (by repeat (first | exact HO.out | apply own_drew | apply own_drewN' | apply Own.alloc))) ?_
                  refine hK.out _ _ ?_ (fun hHeld => ?_)
                  · (try dsimp only); (first | done | trivial)
                  clear hK K
                  try simp only [Act.put, List.setIfInBounds_toArray, List.set_cons_zero, List.set_cons_succ]
                  refine wpAnyH_ready (rs := [10]) (by kernel_rfl) (by simp) ?_
                  refine AllReadyH.cons (by simp only [List.getElem?_toArray, List.getElem?_cons_succ, List.getElem?_cons_zero]; first | done | rfl) (fun K hK => ?_) ?_
                  · skip
                    refine step_call rfl (nearU_any (ust b 2).num _ (RS.num_bd _).1 (RS.num_bd _).2) (by go_simp) ?_
                    rintro e _ ⟨rfl, rfl⟩
                    refine ⟨_, rfl, ?_⟩
                    refine hK.out _ _ ?_ (fun hHeld => ?_)
                    · (try dsimp only); (first | done | trivial)
                    clear hK K
                    try simp only [Act.put, List.setIfInBounds_toArray, List.set_cons_zero, List.set_cons_succ]
                    refine wpAnyH_take (i := 11) (v := ?_) (by simp only [List.getElem?_toArray, List.getElem?_cons_succ, List.getElem?_cons_zero]; first | done | rfl) (by kernel_rfl) (by kernel_rfl) (by kernel_rfl) (fun _ _ _ h => h) (Or.inl ⟨by rfl, ?hy⟩) (by assumption) ?_
                    case hy => (intro w hSw; (try dsimp only at hSw); go_simp; all_goals with_reducible rfl)
                    try simp only [Act.put, List.setIfInBounds_toArray, List.set_cons_zero, List.set_cons_succ]
                    refine wpAnyH_ready (rs := [13]) (by kernel_rfl) (by simp) ?_
                    refine AllReadyH.cons (by simp only [List.getElem?_toArray, List.getElem?_cons_succ, List.getElem?_cons_zero]; first | done | rfl) (fun K hK => ?_) ?_
                    · skip
                      refine step_store_up rfl (.tmp 5) (.tmp 23) rfl g5 (preU b) rfl rfl zeroU (by repeat (first | exact HU.out | apply UA.drew | apply UA.drewN | apply UA.alloc)) ?_
                      intro v2 hv2
                      have HG := Lib.hid (show RdI w v2 g (ust b 3) ∧ UA g5 (preU b) v2 from ⟨by rw [hv2]; exact RdI.setRow (by repeat (first | exact HI.out | apply RdI.drew | apply RdI.drewN | apply RdI.alloc)) HGG.out _, by rw [hv2]; exact ⟨setRow_heap _ _ _ _ _ _ (UA.row (by repeat (first | exact HU.out | apply UA.drew | apply UA.drewN | apply UA.alloc)))⟩⟩)
                      clear hv2
                      refine hK.out _ _ ?_ (fun hHeld => ?_)
                      · (try dsimp only); (first | done | trivial)
                      clear hK K
                      try simp only [Act.put, List.setIfInBounds_toArray, List.set_cons_zero, List.set_cons_succ]
                      refine wpAnyH_done (by kernel_rfl) ?_ _
                      refine NoPanic.normal ?_
                      go_wp2_with fail
                      go_meet
                      exact ⟨g5, rfl, HG.out.1, HG.out.2, HGG.out⟩
                    exact AllReadyH.nil
                  exact AllReadyH.nil
                refine AllReadyH.cons (by simp only [List.getElem?_toArray, List.getElem?_cons_succ, List.getElem?_cons_zero]; first | done | rfl) (fun K hK => ?_) ?_
                · skip
                  refine step_call rfl (nearU_any (ust b 2).num _ (RS.num_bd _).1 (RS.num_bd _).2) (by go_simp) ?_
                  rintro e _ ⟨rfl, rfl⟩
                  refine ⟨_, rfl, ?_⟩
                  refine hK.out _ _ ?_ (fun hHeld => ?_)
                  · (try dsimp only); (first | done | trivial)
                  clear hK K
                  try simp only [Act.put, List.setIfInBounds_toArray, List.set_cons_zero, List.set_cons_succ]
                  refine wpAnyH_ready (rs := [2]) (by kernel_rfl) (by simp) ?_
                  refine AllReadyH.cons (by simp only [List.getElem?_toArray, List.getElem?_cons_succ, List.getElem?_cons_zero]; first | done | rfl) (fun K hK => ?_) ?_
                  · skip
                    refine step_conv_bs rfl (.tmp 13) rfl rfl (Own.rd (by repeat (first | exact HO.out | apply own_drew | apply own_drewN' | apply Own.alloc))) ?_
                    refine hK.out _ _ ?_ (fun hHeld => ?_)
                    · (try dsimp only); (first | done | trivial)
                    clear hK K
                    try simp only [Act.put, List.setIfInBounds_toArray, List.set_cons_zero, List.set_cons_succ]
                    refine wpAnyH_take (i := 11) (v := ?_) (by simp only [List.getElem?_toArray, List.getElem?_cons_succ, List.getElem?_cons_zero]; first | done | rfl) (by kernel_rfl) (by kernel_rfl) (by kernel_rfl) (fun _ _ _ h => h) (Or.inl ⟨by rfl, ?hy⟩) (by assumption) ?_
                    case hy => (intro w hSw; (try dsimp only at hSw); go_simp; all_goals with_reducible rfl)
                    try simp only [Act.put, List.setIfInBounds_toArray, List.set_cons_zero, List.set_cons_succ]
                    refine wpAnyH_ready (rs := [13]) (by kernel_rfl) (by simp) ?_
                    refine AllReadyH.cons (by simp only [List.getElem?_toArray, List.getElem?_cons_succ, List.getElem?_cons_zero]; first | done | rfl) (fun K hK => ?_) ?_
                    · skip
                      refine step_store_up rfl (.tmp 5) (.tmp 23) rfl g5 (preU b) rfl rfl zeroU (by repeat (first | exact HU.out | apply UA.drew | apply UA.drewN | apply UA.alloc)) ?_
                      intro v2 hv2
                      have HG := Lib.hid (show RdI w v2 g (ust b 3) ∧ UA g5 (preU b) v2 from ⟨by rw [hv2]; exact RdI.setRow (by repeat (first | exact HI.out | apply RdI.drew | apply RdI.drewN | apply RdI.alloc)) HGG.out _, by rw [hv2]; exact ⟨setRow_heap _ _ _ _ _ _ (UA.row (by repeat (first | exact HU.out | apply UA.drew | apply UA.drewN | apply UA.alloc)))⟩⟩)
                      clear hv2
                      refine hK.out _ _ ?_ (fun hHeld => ?_)
                      · (try dsimp only); (first | done | trivial)
                      clear hK K
                      try simp only [Act.put, List.setIfInBounds_toArray, List.set_cons_zero, List.set_cons_succ]
                      refine wpAnyH_done (by kernel_rfl) ?_ _
                      refine NoPanic.normal ?_
                      go_wp2_with fail
                      go_meet
                      exact ⟨g5, rfl, HG.out.1, HG.out.2, HGG.out⟩
                    exact AllReadyH.nil
                  exact AllReadyH.nil
                exact AllReadyH.nil
              exact AllReadyH.nil
            exact AllReadyH.nil
          refine AllReadyH.cons (by simp only [List.getElem?_toArray, List.getElem?_cons_succ, List.getElem?_cons_zero]; first | done | rfl) (fun K hK => ?_) ?_
          · skip
            refine step_value rfl (run_alloc_op rfl (run_alloc_up _)) ?_
            try dsimp only
            obtain ⟨g5, hg5⟩ : ∃ g5, g5 = v2.heap.size := ⟨_, rfl⟩
            try rw [show v2.drew.heap.size = v2.heap.size from rfl]
            rw [← hg5]
            refine k_world (fun W' => UA g5 zeroU W' ∧ RdI w W' g (ust b 1) ∧ g < g5 ∧ Own W' (g + 1) (.slice b2 (lmpOut 32 b 0).length c2) (lmpOut 32 b 0)) ⟨(by rw [hg5]; first | exact UA.new zeroU _ | exact (UA.new zeroU _).drew), (by repeat (first | exact HI.out | apply RdI.drew | apply RdI.drewN | apply RdI.alloc)), (by rw [hg5]; exact RdI.glt (by repeat (first | exact HI.out | apply RdI.drew | apply RdI.drewN | apply RdI.alloc))), (by repeat (first | exact HO.out | apply own_drew | apply own_drewN' | apply Own.alloc))⟩ ?_
            rintro v2 ⟨hu, hi, hgg, ho⟩
            have HU := Lib.hid hu
            have HGG := Lib.hid hgg
            clear HI
            have HI := Lib.hid hi
            clear HO
            have HO := Lib.hid ho
            clear ho
            clear hu hi hgg hg5
            refine hK.out _ _ ?_ (fun hHeld => ?_)
            · (try dsimp only); (first | done | trivial)
            clear hK K
            try simp only [Act.put, List.setIfInBounds_toArray, List.set_cons_zero, List.set_cons_succ]
            refine wpAnyH_ready (rs := [2, 7]) (by kernel_rfl) (by simp) ?_
            refine AllReadyH.cons (by simp only [List.getElem?_toArray, List.getElem?_cons_succ, List.getElem?_cons_zero]; first | done | rfl) (fun K hK => ?_) ?_
            · skip
              refine step_conv_bs rfl (.tmp 13) rfl rfl (Own.rd (by repeat (first | exact HO.out | apply own_drew | apply own_drewN' | apply Own.alloc))) ?_
              refine hK.out _ _ ?_ (fun hHeld => ?_)
              · (try dsimp only); (first | done | trivial)
              clear hK K
              try simp only [Act.put, List.setIfInBounds_toArray, List.set_cons_zero, List.set_cons_succ]
              refine wpAnyH_ready (rs := [7]) (by kernel_rfl) (by simp) ?_
              refine AllReadyH.cons (by simp only [List.getElem?_toArray, List.getElem?_cons_succ, List.getElem?_cons_zero]; first | done | rfl) (fun K hK => ?_) ?_
              · skip
                refine step_call rfl (num_u g b 1 _ (RdI.rdr (by repeat (first | exact HI.out | apply RdI.drew | apply RdI.drewN | apply RdI.alloc))) hl) (by go_simp) ?_
                rintro e v2 ⟨rfl, hr, hg⟩
                refine ⟨_, rfl, ?_⟩
                have HI' := Lib.hid (RdI.read (z' := ust b 2) (by repeat (first | exact HI.out | apply RdI.drew | apply RdI.drewN | apply RdI.alloc)) hr hg)
                have HU' := Lib.hid (UA.grown (by repeat (first | exact HU.out | apply UA.drew | apply UA.drewN | apply UA.alloc)) hg (fun e => by have := HGG.out; simp at e; omega))
                clear hr hg
                have HI := HI'
                have HU := HU'
                clear HI' HU'
                refine hK.out _ _ ?_ (fun hHeld => ?_)
                · (try dsimp only); (first | done | trivial)
                clear hK K
                try simp only [Act.put, List.setIfInBounds_toArray, List.set_cons_zero, List.set_cons_succ]
                refine wpAnyH_ready (rs := [9]) (by kernel_rfl) (by simp) ?_
                refine AllReadyH.cons (by simp only [List.getElem?_toArray, List.getElem?_cons_succ, List.getElem?_cons_zero]; first | done | rfl) (fun K hK => ?_) ?_
                · skip
                  refine step_call rfl (num_u g b 2 _ (RdI.rdr (by repeat (first | exact HI.out | apply RdI.drew | apply RdI.drewN | apply RdI.alloc))) hl) (by go_simp) ?_
                  rintro e v2 ⟨rfl, hr, hg⟩
                  refine ⟨_, rfl, ?_⟩
                  have HI' := Lib.hid (RdI.read (z' := ust b 3) (by repeat (first | exact HI.out | apply RdI.drew | apply RdI.drewN | apply RdI.alloc)) hr hg)
                  have HU' := Lib.hid (UA.grown (by repeat (first | exact HU.out | apply UA.drew | apply UA.drewN | apply UA.alloc)) hg (fun e => by have := HGG.out; simp at e; omega))
                  clear hr hg
                  have HI := HI'
                  have HU := HU'
                  clear HI' HU'
                  refine hK.out _ _ ?_ (fun hHeld => ?_)
                  · (try dsimp only); (first | done | trivial)
                  clear hK K
                  try simp only [Act.put, List.setIfInBounds_toArray, List.set_cons_zero, List.set_cons_succ]
                  refine wpAnyH_ready (rs := [10]) (by kernel_rfl) (by simp) ?_
                  refine AllReadyH.cons (by simp only [List.getElem?_toArray, List.getElem?_cons_succ, List.getElem?_cons_zero]; first | done | rfl) (fun K hK => ?_) ?_
                  · skip
                    refine step_call rfl (nearU_any (ust b 2).num _ (RS.num_bd _).1 (RS.num_bd _).2) (by go_simp) ?_
                    rintro e _ ⟨rfl, rfl⟩
                    refine ⟨_, rfl, ?_⟩
                    refine hK.out _ _ ?_ (fun hHeld => ?_)
                    · (try dsimp only); (first | done | trivial)
                    clear hK K
                    try simp only [Act.put, List.setIfInBounds_toArray, List.set_cons_zero, List.set_cons_succ]
                    refine wpAnyH_take (i := 11) (v := ?_) (by simp only [List.getElem?_toArray, List.getElem?_cons_succ, List.getElem?_cons_zero]; first | done | rfl) (by kernel_rfl) (by kernel_rfl) (by kernel_rfl) (fun _ _ _ h => h) (Or.inl ⟨by rfl, ?hy⟩) (by assumption) ?_
                    case hy => (intro w hSw; (try dsimp only at hSw); go_simp; all_goals with_reducible rfl)
                    try simp only [Act.put, List.setIfInBounds_toArray, List.set_cons_zero, List.set_cons_succ]
                    refine wpAnyH_ready (rs := [13]) (by kernel_rfl) (by simp) ?_
                    refine AllReadyH.cons (by simp only [List.getElem?_toArray, List.getElem?_cons_succ, List.getElem?_cons_zero]; first | done | rfl) (fun K hK => ?_) ?_
                    · skip
                      refine step_store_up rfl (.tmp 5) (.tmp 23) rfl g5 (preU b) rfl rfl zeroU (by repeat (first | exact HU.out | apply UA.drew | apply UA.drewN | apply UA.alloc)) ?_
                      intro v2 hv2
                      have HG := Lib.hid (show RdI w v2 g (ust b 3) ∧ UA g5 (preU b) v2 from ⟨by rw [hv2]; exact RdI.setRow (by repeat (first | exact HI.out | apply RdI.drew | apply RdI.drewN | apply RdI.alloc)) HGG.out _, by rw [hv2]; exact ⟨setRow_heap _ _ _ _ _ _ (UA.row (by repeat (first | exact HU.out | apply UA.drew | apply UA.drewN | apply UA.alloc)))⟩⟩)
                      clear hv2
                      refine hK.out _ _ ?_ (fun hHeld => ?_)
                      · (try dsimp only); (first | done | trivial)
                      clear hK K
                      try simp only [Act.put, List.setIfInBounds_toArray, List.set_cons_zero, List.set_cons_succ]
                      refine wpAnyH_done (by kernel_rfl) ?_ _
                      refine NoPanic.normal ?_
                      go_wp2_with fail
                      go_meet
                      exact ⟨g5, rfl, HG.out.1, HG.out.2, HGG.out⟩
                    exact AllReadyH.nil
                  exact AllReadyH.nil
                exact AllReadyH.nil
              exact AllReadyH.nil
            refine AllReadyH.cons (by simp only [List.getElem?_toArray, List.getElem?_cons_succ, List.getElem?_cons_zero]; first | done | rfl) (fun K hK => ?_) ?_
            · skip
              refine step_call rfl (num_u g b 1 _ (RdI.rdr (by repeat (first | exact HI.out | apply RdI.drew | apply RdI.drewN | apply RdI.alloc))) hl) (by go_simp) ?_
              rintro e v2 ⟨rfl, hr, hg⟩
              refine ⟨_, rfl, ?_⟩
              have HI' := Lib.hid (RdI.read (z' := ust b 2) (by repeat (first | exact HI.out | apply RdI.drew | apply RdI.drewN | apply RdI.alloc)) hr hg)
              have HO' := Lib.hid (Own.grownG (by repeat (first | exact HO.out | apply own_drew | apply own_drewN' | apply Own.alloc)) hg)
              have HU' := Lib.hid (UA.grown (by repeat (first | exact HU.out | apply UA.drew | apply UA.drewN | apply UA.alloc)) hg (fun e => by have := HGG.out; simp at e; omega))
              clear hr hg
              have HI := HI'
              have HO := HO'
              have HU := HU'
              clear HI' HO' HU'
              refine hK.out _ _ ?_ (fun hHeld => ?_)
              · (try dsimp only); (first | done | trivial)
              clear hK K
              try simp only [Act.put, List.setIfInBounds_toArray, List.set_cons_zero, List.set_cons_succ]
              refine wpAnyH_ready (rs := [2, 9]) (by kernel_rfl) (by simp) ?_
              refine AllReadyH.cons (by simp only [List.getElem?_toArray, List.getElem?_cons_succ, List.getElem?_cons_zero]; first | done | rfl) (fun K hK => ?_) ?_
              · skip
                refine step_conv_bs rfl (.tmp 13) rfl rfl (Own.rd (by repeat (first | exact HO.out | apply own_drew | apply own_drewN' | apply Own.alloc))) ?_
                refine hK.out _ _ ?_ (fun hHeld => ?_)
                · (try dsimp only); (first | done | trivial)
                clear hK K
                try simp only [Act.put, List.setIfInBounds_toArray, List.set_cons_zero, List.set_cons_succ]
                refine wpAnyH_ready (rs := [9]) (by kernel_rfl) (by simp) ?_
                refine AllReadyH.cons (by simp only [List.getElem?_toArray, List.getElem?_cons_succ, List.getElem?_cons_zero]; first | done | rfl) (fun K hK => ?_) ?_
                · skip
                  refine step_call rfl (num_u g b 2 _ (RdI.rdr (by repeat (first | exact HI.out | apply RdI.drew | apply RdI.drewN | apply RdI.alloc))) hl) (by go_simp) ?_
                  rintro e v2 ⟨rfl, hr, hg⟩
                  refine ⟨_, rfl, ?_⟩
                  have HI' := Lib.hid (RdI.read (z' := ust b 3) (by repeat (first | exact HI.out | apply RdI.drew | apply RdI.drewN | apply RdI.alloc)) hr hg)
                  have HU' := Lib.hid (UA.grown (by repeat (first | exact HU.out | apply UA.drew | apply UA.drewN | apply UA.alloc)) hg (fun e => by have := HGG.out; simp at e; omega))
                  clear hr hg
                  have HI := HI'
                  have HU := HU'
                  clear HI' HU'
                  refine hK.out _ _ ?_ (fun hHeld => ?_)
                  · (try dsimp only); (first | done | trivial)
                  clear hK K
                  try simp only [Act.put, List.setIfInBounds_toArray, List.set_cons_zero, List.set_cons_succ]
                  refine wpAnyH_ready (rs := [10]) (by kernel_rfl) (by simp) ?_
                  refine AllReadyH.cons (by simp only [List.getElem?_toArray, List.getElem?_cons_succ, List.getElem?_cons_zero]; first | done | rfl) (fun K hK => ?_) ?_
                  · skip
                    refine step_call rfl (nearU_any (ust b 2).num _ (RS.num_bd _).1 (RS.num_bd _).2) (by go_simp) ?_
                    rintro e _ ⟨rfl, rfl⟩
                    refine ⟨_, rfl, ?_⟩
                    refine hK.out _ _ ?_ (fun hHeld => ?_)
                    · (try dsimp only); (first | done | trivial)
                    clear hK K
                    try simp only [Act.put, List.setIfInBounds_toArray, List.set_cons_zero, List.set_cons_succ]
                    refine wpAnyH_take (i := 11) (v := ?_) (by simp only [List.getElem?_toArray, List.getElem?_cons_succ, List.getElem?_cons_zero]; first | done | rfl) (by kernel_rfl) (by kernel_rfl) (by kernel_rfl) (fun _ _ _ h => h) (Or.inl ⟨by rfl, ?hy⟩) (by assumption) ?_
                    case hy => (intro w hSw; (try dsimp only at hSw); go_simp; all_goals with_reducible rfl)
                    try simp only [Act.put, List.setIfInBounds_toArray, List.set_cons_zero, List.set_cons_succ]
                    refine wpAnyH_ready (rs := [13]) (by kernel_rfl) (by simp) ?_
                    refine AllReadyH.cons (by simp only [List.getElem?_toArray, List.getElem?_cons_succ, List.getElem?_cons_zero]; first | done | rfl) (fun K hK => ?_) ?_
                    · skip
                      refine step_store_up rfl (.tmp 5) (.tmp 23) rfl g5 (preU b) rfl rfl zeroU (by repeat (first | exact HU.out | apply UA.drew | apply UA.drewN | apply UA.alloc)) ?_
                      intro v2 hv2
                      have HG := Lib.hid (show RdI w v2 g (ust b 3) ∧ UA g5 (preU b) v2 from ⟨by rw [hv2]; exact RdI.setRow (by repeat (first | exact HI.out | apply RdI.drew | apply RdI.drewN | apply RdI.alloc)) HGG.out _, by rw [hv2]; exact ⟨setRow_heap _ _ _ _ _ _ (UA.row (by repeat (first | exact HU.out | apply UA.drew | apply UA.drewN | apply UA.alloc)))⟩⟩)
                      clear hv2
                      refine hK.out _ _ ?_ (fun hHeld => ?_)
                      · (try dsimp only); (first | done | trivial)
                      clear hK K
                      try simp only [Act.put, List.setIfInBounds_toArray, List.set_cons_zero, List.set_cons_succ]
                      refine wpAnyH_done (by kernel_rfl) ?_ _
                      refine NoPanic.normal ?_
                      go_wp2_with fail
                      go_meet
                      exact ⟨g5, rfl, HG.out.1, HG.out.2, HGG.out⟩
                    exact AllReadyH.nil
                  exact AllReadyH.nil
                exact AllReadyH.nil
              refine AllReadyH.cons (by simp only [List.getElem?_toArray, List.getElem?_cons_succ, List.getElem?_cons_zero]; first | done | rfl) (fun K hK => ?_) ?_
              · skip
                refine step_call rfl (num_u g b 2 _ (RdI.rdr (by repeat (first | exact HI.out | apply RdI.drew | apply RdI.drewN | apply RdI.alloc))) hl) (by go_simp) ?_
                rintro e v2 ⟨rfl, hr, hg⟩
                refine ⟨_, rfl, ?_⟩
                have HI' := Lib.hid (RdI.read (z' := ust b 3) (by repeat (first | exact HI.out | apply RdI.drew | apply RdI.drewN | apply RdI.alloc)) hr hg)
                have HO' := Lib.hid (Own.grownG (by repeat (first | exact HO.out | apply own_drew | apply own_drewN' | apply Own.alloc)) hg)
                have HU' := Lib.hid (UA.grown (by repeat (first | exact HU.out | apply UA.drew | apply UA.drewN | apply UA.alloc)) hg (fun e => by have := HGG.out; simp at e; omega))
                clear hr hg
                have HI := HI'
                have HO := HO'
                have HU := HU'
                clear HI' HO' HU'
                refine hK.out _ _ ?_ (fun hHeld => ?_)
                · (try dsimp only); (first | done | trivial)
                clear hK K
                try simp only [Act.put, List.setIfInBounds_toArray, List.set_cons_zero, List.set_cons_succ]
                refine wpAnyH_ready (rs := [2, 10]) (by kernel_rfl) (by simp) ?_
                refine AllReadyH.cons (by simp only [List.getElem?_toArray, List.getElem?_cons_succ, List.getElem?_cons_zero]; first | done | rfl) (fun K hK => ?_) ?_
                · skip
                  refine step_conv_bs rfl (.tmp 13) rfl rfl (Own.rd (by repeat (first | exact HO.out | apply own_drew | apply own_drewN' | apply Own.alloc))) ?_
                  refine hK.out _ _ ?_ (fun hHeld => ?_)
                  · (try dsimp only); (first | done | trivial)
                  clear hK K
                  try simp only [Act.put, List.setIfInBounds_toArray, List.set_cons_zero, List.set_cons_succ]
                  refine wpAnyH_ready (rs := [10]) (by kernel_rfl) (by simp) ?_
                  refine AllReadyH.cons (by simp only [List.getElem?_toArray, List.getElem?_cons_succ, List.getElem?_cons_zero]; first | done | rfl) (fun K hK => ?_) ?_
                  · skip
                    refine step_call rfl (nearU_any (ust b 2).num _ (RS.num_bd _).1 (RS.num_bd _).2) (by go_simp) ?_
                    rintro e _ ⟨rfl, rfl⟩
                    refine ⟨_, rfl, ?_⟩
                    refine hK.out _ _ ?_ (fun hHeld => ?_)
                    · (try dsimp only); (first | done | trivial)
                    clear hK K
                    try simp only [Act.put, List.setIfInBounds_toArray, List.set_cons_zero, List.set_cons_succ]
                    refine wpAnyH_take (i := 11) (v := ?_) (by simp only [List.getElem?_toArray, List.getElem?_cons_succ, List.getElem?_cons_zero]; first | done | rfl) (by kernel_rfl) (by kernel_rfl) (by kernel_rfl) (fun _ _ _ h => h) (Or.inl ⟨by rfl, ?hy⟩) (by assumption) ?_
                    case hy => (intro w hSw; (try dsimp only at hSw); go_simp; all_goals with_reducible rfl)
                    try simp only [Act.put, List.setIfInBounds_toArray, List.set_cons_zero, List.set_cons_succ]
                    refine wpAnyH_ready (rs := [13]) (by kernel_rfl) (by simp) ?_
                    refine AllReadyH.cons (by simp only [List.getElem?_toArray, List.getElem?_cons_succ, List.getElem?_cons_zero]; first | done | rfl) (fun K hK => ?_) ?_
                    · skip
                      refine step_store_up rfl (.tmp 5) (.tmp 23) rfl g5 (preU b) rfl rfl zeroU (by repeat (first | exact HU.out | apply UA.drew | apply UA.drewN | apply UA.alloc)) ?_
                      intro v2 hv2
                      have HG := Lib.hid (show RdI w v2 g (ust b 3) ∧ UA g5 (preU b) v2 from ⟨by rw [hv2]; exact RdI.setRow (by repeat (first | exact HI.out | apply RdI.drew | apply RdI.drewN | apply RdI.alloc)) HGG.out _, by rw [hv2]; exact ⟨setRow_heap _ _ _ _ _ _ (UA.row (by repeat (first | exact HU.out | apply UA.drew | apply UA.drewN | apply UA.alloc)))⟩⟩)
                      clear hv2
                      refine hK.out _ _ ?_ (fun hHeld => ?_)
                      · (try dsimp only); (first | done | trivial)
                      clear hK K
                      try simp only [Act.put, List.setIfInBounds_toArray, List.set_cons_zero, List.set_cons_succ]
                      refine wpAnyH_done (by kernel_rfl) ?_ _
                      refine NoPanic.normal ?_
                      go_wp2_with fail
                      go_meet
                      exact ⟨g5, rfl, HG.out.1, HG.out.2, HGG.out⟩
                    exact AllReadyH.nil
                  exact AllReadyH.nil
                refine AllReadyH.cons (by simp only [List.getElem?_toArray, List.getElem?_cons_succ, List.getElem?_cons_zero]; first | done | rfl) (fun K hK => ?_) ?_
                · skip
                  refine step_call rfl (nearU_any (ust b 2).num _ (RS.num_bd _).1 (RS.num_bd _).2) (by go_simp) ?_
                  rintro e _ ⟨rfl, rfl⟩
                  refine ⟨_, rfl, ?_⟩
                  refine hK.out _ _ ?_ (fun hHeld => ?_)
                  · (try dsimp only); (first | done | trivial)
                  clear hK K
                  try simp only [Act.put, List.setIfInBounds_toArray, List.set_cons_zero, List.set_cons_succ]
                  refine wpAnyH_ready (rs := [2]) (by kernel_rfl) (by simp) ?_
                  refine AllReadyH.cons (by simp only [List.getElem?_toArray, List.getElem?_cons_succ, List.getElem?_cons_zero]; first | done | rfl) (fun K hK => ?_) ?_
                  · skip
                    refine step_conv_bs rfl (.tmp 13) rfl rfl (Own.rd (by repeat (first | exact HO.out | apply own_drew | apply own_drewN' | apply Own.alloc))) ?_
                    refine hK.out _ _ ?_ (fun hHeld => ?_)
                    · (try dsimp only); (first | done | trivial)
                    clear hK K
                    try simp only [Act.put, List.setIfInBounds_toArray, List.set_cons_zero, List.set_cons_succ]
                    refine wpAnyH_take (i := 11) (v := ?_) (by simp only [List.getElem?_toArray, List.getElem?_cons_succ, List.getElem?_cons_zero]; first | done | rfl) (by kernel_rfl) (by kernel_rfl) (by kernel_rfl) (fun _ _ _ h => h) (Or.inl ⟨by rfl, ?hy⟩) (by assumption) ?_
                    case hy => (intro w hSw; (try dsimp only at hSw); go_simp; all_goals with_reducible rfl)
                    try simp only [Act.put, List.setIfInBounds_toArray, List.set_cons_zero, List.set_cons_succ]
                    refine wpAnyH_ready (rs := [13]) (by kernel_rfl) (by simp) ?_
                    refine AllReadyH.cons (by simp only [List.getElem?_toArray, List.getElem?_cons_succ, List.getElem?_cons_zero]; first | done | rfl) (fun K hK => ?_) ?_
                    · skip
                      refine step_store_up rfl (.tmp 5) (.tmp 23) rfl g5 (preU b) rfl rfl zeroU (by repeat (first | exact HU.out | apply UA.drew | apply UA.drewN | apply UA.alloc)) ?_
                      intro v2 hv2
                      have HG := Lib.hid (show RdI w v2 g (ust b 3) ∧ UA g5 (preU b) v2 from ⟨by rw [hv2]; exact RdI.setRow (by repeat (first | exact HI.out | apply RdI.drew | apply RdI.drewN | apply RdI.alloc)) HGG.out _, by rw [hv2]; exact ⟨setRow_heap _ _ _ _ _ _ (UA.row (by repeat (first | exact HU.out | apply UA.drew | apply UA.drewN | apply UA.alloc)))⟩⟩)
                      clear hv2
                      refine hK.out _ _ ?_ (fun hHeld => ?_)
                      · (try dsimp only); (first | done | trivial)
                      clear hK K
                      try simp only [Act.put, List.setIfInBounds_toArray, List.set_cons_zero, List.set_cons_succ]
                      refine wpAnyH_done (by kernel_rfl) ?_ _
                      refine NoPanic.normal ?_
                      go_wp2_with fail
                      go_meet
                      exact ⟨g5, rfl, HG.out.1, HG.out.2, HGG.out⟩
                    exact AllReadyH.nil
                  exact AllReadyH.nil
                exact AllReadyH.nil
              exact AllReadyH.nil
            exact AllReadyH.nil
          exact AllReadyH.nil
        refine AllReadyH.cons (by simp only [List.getElem?_toArray, List.getElem?_cons_succ, List.getElem?_cons_zero]; first | done | rfl) (fun K hK => ?_) ?_
        · skip
          refine step_value rfl (run_alloc_op rfl (run_alloc_up _)) ?_
          try dsimp only
          obtain ⟨g5, hg5⟩ : ∃ g5, g5 = v2.heap.size := ⟨_, rfl⟩
          try rw [show v2.drew.heap.size = v2.heap.size from rfl]
          rw [← hg5]
          refine k_world (fun W' => UA g5 zeroU W' ∧ RdI w W' g (ust b 1) ∧ g < g5 ∧ Own W' (g + 1) (.slice b2 (lmpOut 32 b 0).length c2) (lmpOut 32 b 0)) ⟨(by rw [hg5]; first | exact UA.new zeroU _ | exact (UA.new zeroU _).drew), (by repeat (first | exact HI.out | apply RdI.drew | apply RdI.drewN | apply RdI.alloc)), (by rw [hg5]; exact RdI.glt (by repeat (first | exact HI.out | apply RdI.drew | apply RdI.drewN | apply RdI.alloc))), (by repeat (first | exact HO.out | apply own_drew | apply own_drewN' | apply Own.alloc))⟩ ?_
          rintro v2 ⟨hu, hi, hgg, ho⟩
          have HU := Lib.hid hu
          have HGG := Lib.hid hgg
          clear HI
          have HI := Lib.hid hi
          clear HO
          have HO := Lib.hid ho
          clear ho
          clear hu hi hgg hg5
          refine hK.out _ _ ?_ (fun hHeld => ?_)
          · (try dsimp only); (first | done | trivial)
          clear hK K
          try simp only [Act.put, List.setIfInBounds_toArray, List.set_cons_zero, List.set_cons_succ]
          refine wpAnyH_ready (rs := [2, 5]) (by kernel_rfl) (by simp) ?_
          refine AllReadyH.cons (by simp only [List.getElem?_toArray, List.getElem?_cons_succ, List.getElem?_cons_zero]; first | done | rfl) (fun K hK => ?_) ?_
          · skip
            refine step_conv_bs rfl (.tmp 13) rfl rfl (Own.rd (by repeat (first | exact HO.out | apply own_drew | apply own_drewN' | apply Own.alloc))) ?_
            refine hK.out _ _ ?_ (fun hHeld => ?_)
            · (try dsimp only); (first | done | trivial)
            clear hK K
            try simp only [Act.put, List.setIfInBounds_toArray, List.set_cons_zero, List.set_cons_succ]
            refine wpAnyH_ready (rs := [5]) (by kernel_rfl) (by simp) ?_
            refine AllReadyH.cons (by simp only [List.getElem?_toArray, List.getElem?_cons_succ, List.getElem?_cons_zero]; first | done | rfl) (fun K hK => ?_) ?_
            · skip
              refine step_call rfl (nearU_any (ust b 0).num _ (RS.num_bd _).1 (RS.num_bd _).2) (by go_simp) ?_
              rintro e _ ⟨rfl, rfl⟩
              refine ⟨_, rfl, ?_⟩
              refine hK.out _ _ ?_ (fun hHeld => ?_)
              · (try dsimp only); (first | done | trivial)
              clear hK K
              try simp only [Act.put, List.setIfInBounds_toArray, List.set_cons_zero, List.set_cons_succ]
              refine wpAnyH_ready (rs := [7]) (by kernel_rfl) (by simp) ?_
              refine AllReadyH.cons (by simp only [List.getElem?_toArray, List.getElem?_cons_succ, List.getElem?_cons_zero]; first | done | rfl) (fun K hK => ?_) ?_
              · skip
                refine step_call rfl (num_u g b 1 _ (RdI.rdr (by repeat (first | exact HI.out | apply RdI.drew | apply RdI.drewN | apply RdI.alloc))) hl) (by go_simp) ?_
                rintro e v2 ⟨rfl, hr, hg⟩
                refine ⟨_, rfl, ?_⟩
                have HI' := Lib.hid (RdI.read (z' := ust b 2) (by repeat (first | exact HI.out | apply RdI.drew | apply RdI.drewN | apply RdI.alloc)) hr hg)
                have HU' := Lib.hid (UA.grown (by repeat (first | exact HU.out | apply UA.drew | apply UA.drewN | apply UA.alloc)) hg (fun e => by have := HGG.out; simp at e; omega))
                clear hr hg
                have HI := HI'
                have HU := HU'
                clear HI' HU'
                refine hK.out _ _ ?_ (fun hHeld => ?_)
                · (try dsimp only); (first | done | trivial)
                clear hK K
                try simp only [Act.put, List.setIfInBounds_toArray, List.set_cons_zero, List.set_cons_succ]
                refine wpAnyH_ready (rs := [9]) (by kernel_rfl) (by simp) ?_
                refine AllReadyH.cons (by simp only [List.getElem?_toArray, List.getElem?_cons_succ, List.getElem?_cons_zero]; first | done | rfl) (fun K hK => ?_) ?_
                · skip
                  refine step_call rfl (num_u g b 2 _ (RdI.rdr (by repeat (first | exact HI.out | apply RdI.drew | apply RdI.drewN | apply RdI.alloc))) hl) (by go_simp) ?_
                  rintro e v2 ⟨rfl, hr, hg⟩
                  refine ⟨_, rfl, ?_⟩
                  have HI' := Lib.hid (RdI.read (z' := ust b 3) (by repeat (first | exact HI.out | apply RdI.drew | apply RdI.drewN | apply RdI.alloc)) hr hg)
                  have HU' := Lib.hid (UA.grown (by repeat (first | exact HU.out | apply UA.drew | apply UA.drewN | apply UA.alloc)) hg (fun e => by have := HGG.out; simp at e; omega))
                  clear hr hg
                  have HI := HI'
                  have HU := HU'
                  clear HI' HU'
                  refine hK.out _ _ ?_ (fun hHeld => ?_)
                  · (try dsimp only); (first | done | trivial)
                  clear hK K
                  try simp only [Act.put, List.setIfInBounds_toArray, List.set_cons_zero, List.set_cons_succ]
                  refine wpAnyH_ready (rs := [10]) (by kernel_rfl) (by simp) ?_
                  refine AllReadyH.cons (by simp only [List.getElem?_toArray, List.getElem?_cons_succ, List.getElem?_cons_zero]; first | done | rfl) (fun K hK => ?_) ?_
                  · skip
                    refine step_call rfl (nearU_any (ust b 2).num _ (RS.num_bd _).1 (RS.num_bd _).2) (by go_simp) ?_
                    rintro e _ ⟨rfl, rfl⟩
                    refine ⟨_, rfl, ?_⟩
                    refine hK.out _ _ ?_ (fun hHeld => ?_)
                    · (try dsimp only); (first | done | trivial)
                    clear hK K
                    try simp only [Act.put, List.setIfInBounds_toArray, List.set_cons_zero, List.set_cons_succ]
                    refine wpAnyH_take (i := 11) (v := ?_) (by simp only [List.getElem?_toArray, List.getElem?_cons_succ, List.getElem?_cons_zero]; first | done | rfl) (by kernel_rfl) (by kernel_rfl) (by kernel_rfl) (fun _ _ _ h => h) (Or.inl ⟨by rfl, ?hy⟩) (by assumption) ?_
                    case hy => (intro w hSw; (try dsimp only at hSw); go_simp; all_goals with_reducible rfl)
                    try simp only [Act.put, List.setIfInBounds_toArray, List.set_cons_zero, List.set_cons_succ]
                    refine wpAnyH_ready (rs := [13]) (by kernel_rfl) (by simp) ?_
                    refine AllReadyH.cons (by simp only [List.getElem?_toArray, List.getElem?_cons_succ, List.getElem?_cons_zero]; first | done | rfl) (fun K hK => ?_) ?_
                    · skip
                      refine step_store_up rfl (.tmp 5) (.tmp 23) rfl g5 (preU b) rfl rfl zeroU (by repeat (first | exact HU.out | apply UA.drew | apply UA.drewN | apply UA.alloc)) ?_
                      intro v2 hv2
                      have HG := Lib.hid (show RdI w v2 g (ust b 3) ∧ UA g5 (preU b) v2 from ⟨by rw [hv2]; exact RdI.setRow (by repeat (first | exact HI.out | apply RdI.drew | apply RdI.drewN | apply RdI.alloc)) HGG.out _, by rw [hv2]; exact ⟨setRow_heap _ _ _ _ _ _ (UA.row (by repeat (first | exact HU.out | apply UA.drew | apply UA.drewN | apply UA.alloc)))⟩⟩)
                      clear hv2
                      refine hK.out _ _ ?_ (fun hHeld => ?_)
                      · (try dsimp only); (first | done | trivial)
                      clear hK K
                      try simp only [Act.put, List.setIfInBounds_toArray, List.set_cons_zero, List.set_cons_succ]
                      refine wpAnyH_done (by kernel_rfl) ?_ _
                      refine NoPanic.normal ?_
                      go_wp2_with fail
                      go_meet
                      exact ⟨g5, rfl, HG.out.1, HG.out.2, HGG.out⟩
                    exact AllReadyH.nil
                  exact AllReadyH.nil
                exact AllReadyH.nil
              exact AllReadyH.nil
            exact AllReadyH.nil
          refine AllReadyH.cons (by simp only [List.getElem?_toArray, List.getElem?_cons_succ, List.getElem?_cons_zero]; first | done | rfl) (fun K hK => ?_) ?_
          · skip
            refine step_call rfl (nearU_any (ust b 0).num _ (RS.num_bd _).1 (RS.num_bd _).2) (by go_simp) ?_
            rintro e _ ⟨rfl, rfl⟩
            refine ⟨_, rfl, ?_⟩
            refine hK.out _ _ ?_ (fun hHeld => ?_)
            · (try dsimp only); (first | done | trivial)
            clear hK K
            try simp only [Act.put, List.setIfInBounds_toArray, List.set_cons_zero, List.set_cons_succ]
            refine wpAnyH_ready (rs := [2, 7]) (by kernel_rfl) (by simp) ?_
            refine AllReadyH.cons (by simp only [List.getElem?_toArray, List.getElem?_cons_succ, List.getElem?_cons_zero]; first | done | rfl) (fun K hK => ?_) ?_
            · skip
              refine step_conv_bs rfl (.tmp 13) rfl rfl (Own.rd (by repeat (first | exact HO.out | apply own_drew | apply own_drewN' | apply Own.alloc))) ?_
              refine hK.out _ _ ?_ (fun hHeld => ?_)
              · (try dsimp only); (first | done | trivial)
              clear hK K
              try simp only [Act.put, List.setIfInBounds_toArray, List.set_cons_zero, List.set_cons_succ]
              refine wpAnyH_ready (rs := [7]) (by kernel_rfl) (by simp) ?_
              refine AllReadyH.cons (by simp only [List.getElem?_toArray, List.getElem?_cons_succ, List.getElem?_cons_zero]; first | done | rfl) (fun K hK => ?_) ?_
              · skip
                refine step_call rfl (num_u g b 1 _ (RdI.rdr (by repeat (first | exact HI.out | apply RdI.drew | apply RdI.drewN | apply RdI.alloc))) hl) (by go_simp) ?_
                rintro e v2 ⟨rfl, hr, hg⟩
                refine ⟨_, rfl, ?_⟩
                have HI' := Lib.hid (RdI.read (z' := ust b 2) (by repeat (first | exact HI.out | apply RdI.drew | apply RdI.drewN | apply RdI.alloc)) hr hg)
                have HU' := Lib.hid (UA.grown (by repeat (first | exact HU.out | apply UA.drew | apply UA.drewN | apply UA.alloc)) hg (fun e => by have := HGG.out; simp at e; omega))
                clear hr hg
                have HI := HI'
                have HU := HU'
                clear HI' HU'
                refine hK.out _ _ ?_ (fun hHeld => ?_)
                · (try dsimp only); (first | done | trivial)
                clear hK K
                try simp only [Act.put, List.setIfInBounds_toArray, List.set_cons_zero, List.set_cons_succ]
                refine wpAnyH_ready (rs := [9]) (by kernel_rfl) (by simp) ?_
                refine AllReadyH.cons (by simp only [List.getElem?_toArray, List.getElem?_cons_succ, List.getElem?_cons_zero]; first | done | rfl) (fun K hK => ?_) ?_
                · skip
                  refine step_call rfl (num_u g b 2 _ (RdI.rdr (by repeat (first | exact HI.out | apply RdI.drew | apply RdI.drewN | apply RdI.alloc))) hl) (by go_simp) ?_
                  rintro e v2 ⟨rfl, hr, hg⟩
                  refine ⟨_, rfl, ?_⟩
                  have HI' := Lib.hid (RdI.read (z' := ust b 3) (by repeat (first | exact HI.out | apply RdI.drew | apply RdI.drewN | apply RdI.alloc)) hr hg)
                  have HU' := Lib.hid (UA.grown (by repeat (first | exact HU.out | apply UA.drew | apply UA.drewN | apply UA.alloc)) hg (fun e => by have := HGG.out; simp at e; omega))
                  clear hr hg
                  have HI := HI'
                  have HU := HU'
                  clear HI' HU'
                  refine hK.out _ _ ?_ (fun hHeld => ?_)
                  · (try dsimp only); (first | done | trivial)
                  clear hK K
                  try simp only [Act.put, List.setIfInBounds_toArray, List.set_cons_zero, List.set_cons_succ]
                  refine wpAnyH_ready (rs := [10]) (by kernel_rfl) (by simp) ?_
                  refine AllReadyH.cons (by simp only [List.getElem?_toArray, List.getElem?_cons_succ, List.getElem?_cons_zero]; first | done | rfl) (fun K hK => ?_) ?_
                  · skip
                    refine step_call rfl (nearU_any (ust b 2).num _ (RS.num_bd _).1 (RS.num_bd _).2) (by go_simp) ?_
                    rintro e _ ⟨rfl, rfl⟩
                    refine ⟨_, rfl, ?_⟩
                    refine hK.out _ _ ?_ (fun hHeld => ?_)
                    · (try dsimp only); (first | done | trivial)
                    clear hK K
                    try simp only [Act.put, List.setIfInBounds_toArray, List.set_cons_zero, List.set_cons_succ]
                    refine wpAnyH_take (i := 11) (v := ?_) (by simp only [List.getElem?_toArray, List.getElem?_cons_succ, List.getElem?_cons_zero]; first | done | rfl) (by kernel_rfl) (by kernel_rfl) (by kernel_rfl) (fun _ _ _ h => h) (Or.inl ⟨by rfl, ?hy⟩) (by assumption) ?_
                    case hy => (intro w hSw; (try dsimp only at hSw); go_simp; all_goals with_reducible rfl)
                    try simp only [Act.put, List.setIfInBounds_toArray, List.set_cons_zero, List.set_cons_succ]
                    refine wpAnyH_ready (rs := [13]) (by kernel_rfl) (by simp) ?_
                    refine AllReadyH.cons (by simp only [List.getElem?_toArray, List.getElem?_cons_succ, List.getElem?_cons_zero]; first | done | rfl) (fun K hK => ?_) ?_
                    · skip
                      refine step_store_up rfl (.tmp 5) (.tmp 23) rfl g5 (preU b) rfl rfl zeroU (by repeat (first | exact HU.out | apply UA.drew | apply UA.drewN | apply UA.alloc)) ?_
                      intro v2 hv2
                      have HG := Lib.hid (show RdI w v2 g (ust b 3) ∧ UA g5 (preU b) v2 from ⟨by rw [hv2]; exact RdI.setRow (by repeat (first | exact HI.out | apply RdI.drew | apply RdI.drewN | apply RdI.alloc)) HGG.out _, by rw [hv2]; exact ⟨setRow_heap _ _ _ _ _ _ (UA.row (by repeat (first | exact HU.out | apply UA.drew | apply UA.drewN | apply UA.alloc)))⟩⟩)
                      clear hv2
                      refine hK.out _ _ ?_ (fun hHeld => ?_)
                      · (try dsimp only); (first | done | trivial)
                      clear hK K
                      try simp only [Act.put, List.setIfInBounds_toArray, List.set_cons_zero, List.set_cons_succ]
                      refine wpAnyH_done (by kernel_rfl) ?_ _
                      refine NoPanic.normal ?_
                      go_wp2_with fail
                      go_meet
                      exact ⟨g5, rfl, HG.out.1, HG.out.2, HGG.out⟩
                    exact AllReadyH.nil
                  exact AllReadyH.nil
                exact AllReadyH.nil
              exact AllReadyH.nil
            refine AllReadyH.cons (by simp only [List.getElem?_toArray, List.getElem?_cons_succ, List.getElem?_cons_zero]; first | done | rfl) (fun K hK => ?_) ?_
            · skip
              refine step_call rfl (num_u g b 1 _ (RdI.rdr (by repeat (first | exact HI.out | apply RdI.drew | apply RdI.drewN | apply RdI.alloc))) hl) (by go_simp) ?_
              rintro e v2 ⟨rfl, hr, hg⟩
              refine ⟨_, rfl, ?_⟩
              have HI' := Lib.hid (RdI.read (z' := ust b 2) (by repeat (first | exact HI.out | apply RdI.drew | apply RdI.drewN | apply RdI.alloc)) hr hg)
              have HO' := Lib.hid (Own.grownG (by repeat (first | exact HO.out | apply own_drew | apply own_drewN' | apply Own.alloc)) hg)
              have HU' := Lib.hid (UA.grown (by repeat (first | exact HU.out | apply UA.drew | apply UA.drewN | apply UA.alloc)) hg (fun e => by have := HGG.out; simp at e; omega))
              clear hr hg
              have HI := HI'
              have HO := HO'
              have HU := HU'
              clear HI' HO' HU'
              refine hK.out _ _ ?_ (fun hHeld => ?_)
              · (try dsimp only); (first | done | trivial)
              clear hK K
              try simp only [Act.put, List.setIfInBounds_toArray, List.set_cons_zero, List.set_cons_succ]
              refine wpAnyH_ready (rs := [2, 9]) (by kernel_rfl) (by simp) ?_
              refine AllReadyH.cons (by simp only [List.getElem?_toArray, List.getElem?_cons_succ, List.getElem?_cons_zero]; first | done | rfl) (fun K hK => ?_) ?_
              · skip
                refine step_conv_bs rfl (.tmp 13) rfl rfl (Own.rd (by repeat (first | exact HO.out | apply own_drew | apply own_drewN' | apply Own.alloc))) ?_
                refine hK.out _ _ ?_ (fun hHeld => ?_)
                · (try dsimp only); (first | done | trivial)
                clear hK K
                try simp only [Act.put, List.setIfInBounds_toArray, List.set_cons_zero, List.set_cons_succ]
                refine wpAnyH_ready (rs := [9]) (by kernel_rfl) (by simp) ?_
                refine AllReadyH.cons (by simp only [List.getElem?_toArray, List.getElem?_cons_succ, List.getElem?_cons_zero]; first | done | rfl) (fun K hK => ?_) ?_
                · skip
                  refine step_call rfl (num_u g b 2 _ (RdI.rdr (by repeat (first | exact HI.out | apply RdI.drew | apply RdI.drewN | apply RdI.alloc))) hl) (by go_simp) ?_
                  rintro e v2 ⟨rfl, hr, hg⟩
                  refine ⟨_, rfl, ?_⟩
                  have HI' := Lib.hid (RdI.read (z' := ust b 3) (by repeat (first | exact HI.out | apply RdI.drew | apply RdI.drewN | apply RdI.alloc)) hr hg)
                  have HU' := Lib.hid (UA.grown (by repeat (first | exact HU.out | apply UA.drew | apply UA.drewN | apply UA.alloc)) hg (fun e => by have := HGG.out; simp at e; omega))
                  clear hr hg
                  have HI := HI'
                  have HU := HU'
                  clear HI' HU'
                  refine hK.out _ _ ?_ (fun hHeld => ?_)
                  · (try dsimp only); (first | done | trivial)
                  clear hK K
                  try simp only [Act.put, List.setIfInBounds_toArray, List.set_cons_zero, List.set_cons_succ]
                  refine wpAnyH_ready (rs := [10]) (by kernel_rfl) (by simp) ?_
                  refine AllReadyH.cons (by simp only [List.getElem?_toArray, List.getElem?_cons_succ, List.getElem?_cons_zero]; first | done | rfl) (fun K hK => ?_) ?_
                  · skip
                    refine step_call rfl (nearU_any (ust b 2).num _ (RS.num_bd _).1 (RS.num_bd _).2) (by go_simp) ?_
                    rintro e _ ⟨rfl, rfl⟩
                    refine ⟨_, rfl, ?_⟩
                    refine hK.out _ _ ?_ (fun hHeld => ?_)
                    · (try dsimp only); (first | done | trivial)
                    clear hK K
                    try simp only [Act.put, List.setIfInBounds_toArray, List.set_cons_zero, List.set_cons_succ]
                    refine wpAnyH_take (i := 11) (v := ?_) (by simp only [List.getElem?_toArray, List.getElem?_cons_succ, List.getElem?_cons_zero]; first | done | rfl) (by kernel_rfl) (by kernel_rfl) (by kernel_rfl) (fun _ _ _ h => h) (Or.inl ⟨by rfl, ?hy⟩) (by assumption) ?_
                    case hy => (intro w hSw; (try dsimp only at hSw); go_simp; all_goals with_reducible rfl)
                    try simp only [Act.put, List.setIfInBounds_toArray, List.set_cons_zero, List.set_cons_succ]
                    refine wpAnyH_ready (rs := [13]) (by kernel_rfl) (by simp) ?_
                    refine AllReadyH.cons (by simp only [List.getElem?_toArray, List.getElem?_cons_succ, List.getElem?_cons_zero]; first | done | rfl) (fun K hK => ?_) ?_
                    · skip
                      refine step_store_up rfl (.tmp 5) (.tmp 23) rfl g5 (preU b) rfl rfl zeroU (by repeat (first | exact HU.out | apply UA.drew | apply UA.drewN | apply UA.alloc)) ?_
                      intro v2 hv2
                      have HG := Lib.hid (show RdI w v2 g (ust b 3) ∧ UA g5 (preU b) v2 from ⟨by rw [hv2]; exact RdI.setRow (by repeat (first | exact HI.out | apply RdI.drew | apply RdI.drewN | apply RdI.alloc)) HGG.out _, by rw [hv2]; exact ⟨setRow_heap _ _ _ _ _ _ (UA.row (by repeat (first | exact HU.out | apply UA.drew | apply UA.drewN | apply UA.alloc)))⟩⟩)
                      clear hv2
                      refine hK.out _ _ ?_ (fun hHeld => ?_)
                      · (try dsimp only); (first | done | trivial)
                      clear hK K
                      try simp only [Act.put, List.setIfInBounds_toArray, List.set_cons_zero, List.set_cons_succ]
                      refine wpAnyH_done (by kernel_rfl) ?_ _
                      refine NoPanic.normal ?_
                      go_wp2_with fail
                      go_meet
                      exact ⟨g5, rfl, HG.out.1, HG.out.2, HGG.out⟩
                    exact AllReadyH.nil
                  exact AllReadyH.nil
                exact AllReadyH.nil
              refine AllReadyH.cons (by simp only [List.getElem?_toArray, List.getElem?_cons_succ, List.getElem?_cons_zero]; first | done | rfl) (fun K hK => ?_) ?_
              · skip
                refine step_call rfl (num_u g b 2 _ (RdI.rdr (by repeat (first | exact HI.out | apply RdI.drew | apply RdI.drewN | apply RdI.alloc))) hl) (by go_simp) ?_
                rintro e v2 ⟨rfl, hr, hg⟩
                refine ⟨_, rfl, ?_⟩
                have HI' := Lib.hid (RdI.read (z' := ust b 3) (by repeat (first | exact HI.out | apply RdI.drew | apply RdI.drewN | apply RdI.alloc)) hr hg)
                have HO' := Lib.hid (Own.grownG (by repeat (first | exact HO.out | apply own_drew | apply own_drewN' | apply Own.alloc)) hg)
                have HU' := Lib.hid (UA.grown (by repeat (first | exact HU.out | apply UA.drew | apply UA.drewN | apply UA.alloc)) hg (fun e => by have := HGG.out; simp at e; omega))
                clear hr hg
                have HI := HI'
                have HO := HO'
                have HU := HU'
                clear HI' HO' HU'
                refine hK.out _ _ ?_ (fun hHeld => ?_)
                · (try dsimp only); (first | done | trivial)
                clear hK K
                try simp only [Act.put, List.setIfInBounds_toArray, List.set_cons_zero, List.set_cons_succ]
                refine wpAnyH_ready (rs := [2, 10]) (by kernel_rfl) (by simp) ?_
                refine AllReadyH.cons (by simp only [List.getElem?_toArray, List.getElem?_cons_succ, List.getElem?_cons_zero]; first | done | rfl) (fun K hK => ?_) ?_
                · skip
                  refine step_conv_bs rfl (.tmp 13) rfl rfl (Own.rd (by repeat (first | exact HO.out | apply own_drew | apply own_drewN' | apply Own.alloc))) ?_
                  refine hK.out _ _ ?_ (fun hHeld => ?_)
                  · (try dsimp only); (first | done | trivial)
                  clear hK K
                  try simp only [Act.put, List.setIfInBounds_toArray, List.set_cons_zero, List.set_cons_succ]
                  refine wpAnyH_ready (rs := [10]) (by kernel_rfl) (by simp) ?_
                  refine AllReadyH.cons (by simp only [List.getElem?_toArray, List.getElem?_cons_succ, List.getElem?_cons_zero]; first | done | rfl) (fun K hK => ?_) ?_
                  · skip
                    refine step_call rfl (nearU_any (ust b 2).num _ (RS.num_bd _).1 (RS.num_bd _).2) (by go_simp) ?_
                    rintro e _ ⟨rfl, rfl⟩
                    refine ⟨_, rfl, ?_⟩
                    refine hK.out _ _ ?_ (fun hHeld => ?_)
                    · (try dsimp only); (first | done | trivial)
                    clear hK K
                    try simp only [Act.put, List.setIfInBounds_toArray, List.set_cons_zero, List.set_cons_succ]
                    refine wpAnyH_take (i := 11) (v := ?_) (by simp only [List.getElem?_toArray, List.getElem?_cons_succ, List.getElem?_cons_zero]; first | done | rfl) (by kernel_rfl) (by kernel_rfl) (by kernel_rfl) (fun _ _ _ h => h) (Or.inl ⟨by rfl, ?hy⟩) (by assumption) ?_
                    case hy => (intro w hSw; (try dsimp only at hSw); go_simp; all_goals with_reducible rfl)
                    try simp only [Act.put, List.setIfInBounds_toArray, List.set_cons_zero, List.set_cons_succ]
                    refine wpAnyH_ready (rs := [13]) (by kernel_rfl) (by simp) ?_
                    refine AllReadyH.cons (by simp only [List.getElem?_toArray, List.getElem?_cons_succ, List.getElem?_cons_zero]; first | done | rfl) (fun K hK => ?_) ?_
                    · skip
                      refine step_store_up rfl (.tmp 5) (.tmp 23) rfl g5 (preU b) rfl rfl zeroU (by repeat (first | exact HU.out | apply UA.drew | apply UA.drewN | apply UA.alloc)) ?_
                      intro v2 hv2
                      have HG := Lib.hid (show RdI w v2 g (ust b 3) ∧ UA g5 (preU b) v2 from ⟨by rw [hv2]; exact RdI.setRow (by repeat (first | exact HI.out | apply RdI.drew | apply RdI.drewN | apply RdI.alloc)) HGG.out _, by rw [hv2]; exact ⟨setRow_heap _ _ _ _ _ _ (UA.row (by repeat (first | exact HU.out | apply UA.drew | apply UA.drewN | apply UA.alloc)))⟩⟩)
                      clear hv2
                      refine hK.out _ _ ?_ (fun hHeld => ?_)
                      · (try dsimp only); (first | done | trivial)
                      clear hK K
                      try simp only [Act.put, List.setIfInBounds_toArray, List.set_cons_zero, List.set_cons_succ]
                      refine wpAnyH_done (by kernel_rfl) ?_ _
                      refine NoPanic.normal ?_
                      go_wp2_with fail
                      go_meet
                      exact ⟨g5, rfl, HG.out.1, HG.out.2, HGG.out⟩
                    exact AllReadyH.nil
                  exact AllReadyH.nil
                refine AllReadyH.cons (by simp only [List.getElem?_toArray, List.getElem?_cons_succ, List.getElem?_cons_zero]; first | done | rfl) (fun K hK => ?_) ?_
                · skip
                  refine step_call rfl (nearU_any (ust b 2).num _ (RS.num_bd _).1 (RS.num_bd _).2) (by go_simp) ?_
                  rintro e _ ⟨rfl, rfl⟩
                  refine ⟨_, rfl, ?_⟩
                  refine hK.out _ _ ?_ (fun hHeld => ?_)
                  · (try dsimp only); (first | done | trivial)
                  clear hK K
                  try simp only [Act.put, List.setIfInBounds_toArray, List.set_cons_zero, List.set_cons_succ]
                  refine wpAnyH_ready (rs := [2]) (by kernel_rfl) (by simp) ?_
                  refine AllReadyH.cons (by simp only [List.getElem?_toArray, List.getElem?_cons_succ, List.getElem?_cons_zero]; first | done | rfl) (fun K hK => ?_) ?_
                  · skip
                    refine step_conv_bs rfl (.tmp 13) rfl rfl (Own.rd (by repeat (first | exact HO.out | apply own_drew | apply own_drewN' | apply Own.alloc))) ?_
                    refine hK.out _ _ ?_ (fun hHeld => ?_)
                    · (try dsimp only); (first | done | trivial)
                    clear hK K
                    try simp only [Act.put, List.setIfInBounds_toArray, List.set_cons_zero, List.set_cons_succ]
                    refine wpAnyH_take (i := 11) (v := ?_) (by simp only [List.getElem?_toArray, List.getElem?_cons_succ, List.getElem?_cons_zero]; first | done | rfl) (by kernel_rfl) (by kernel_rfl) (by kernel_rfl) (fun _ _ _ h => h) (Or.inl ⟨by rfl, ?hy⟩) (by assumption) ?_
                    case hy => (intro w hSw; (try dsimp only at hSw); go_simp; all_goals with_reducible rfl)
                    try simp only [Act.put, List.setIfInBounds_toArray, List.set_cons_zero, List.set_cons_succ]
                    refine wpAnyH_ready (rs := [13]) (by kernel_rfl) (by simp) ?_
                    refine AllReadyH.cons (by simp only [List.getElem?_toArray, List.getElem?_cons_succ, List.getElem?_cons_zero]; first | done | rfl) (fun K hK => ?_) ?_
                    · skip
                      refine step_store_up rfl (.tmp 5) (.tmp 23) rfl g5 (preU b) rfl rfl zeroU (by repeat (first | exact HU.out | apply UA.drew | apply UA.drewN | apply UA.alloc)) ?_
                      intro v2 hv2
                      have HG := Lib.hid (show RdI w v2 g (ust b 3) ∧ UA g5 (preU b) v2 from ⟨by rw [hv2]; exact RdI.setRow (by repeat (first | exact HI.out | apply RdI.drew | apply RdI.drewN | apply RdI.alloc)) HGG.out _, by rw [hv2]; exact ⟨setRow_heap _ _ _ _ _ _ (UA.row (by repeat (first | exact HU.out | apply UA.drew | apply UA.drewN | apply UA.alloc)))⟩⟩)
                      clear hv2
                      refine hK.out _ _ ?_ (fun hHeld => ?_)
                      · (try dsimp only); (first | done | trivial)
                      clear hK K
                      try simp only [Act.put, List.setIfInBounds_toArray, List.set_cons_zero, List.set_cons_succ]
                      refine wpAnyH_done (by kernel_rfl) ?_ _
                      refine NoPanic.normal ?_
                      go_wp2_with fail
                      go_meet
                      exact ⟨g5, rfl, HG.out.1, HG.out.2, HGG.out⟩
                    exact AllReadyH.nil
                  exact AllReadyH.nil
                exact AllReadyH.nil
              exact AllReadyH.nil
            exact AllReadyH.nil
          exact AllReadyH.nil
        exact AllReadyH.nil
      refine AllReadyH.cons (by simp only [List.getElem?_toArray, List.getElem?_cons_succ, List.getElem?_cons_zero]; first | done | rfl) (fun K hK => ?_) ?_
      · skip
        refine step_value rfl (run_alloc_op rfl (run_alloc_up _)) ?_
        try dsimp only
        obtain ⟨g5, hg5⟩ : ∃ g5, g5 = v2.heap.size := ⟨_, rfl⟩
        try rw [show v2.drew.heap.size = v2.heap.size from rfl]
        rw [← hg5]
        refine k_world (fun W' => UA g5 zeroU W' ∧ RdI w W' g (ust b 0) ∧ g < g5 ∧ Own W' (g + 1) (.slice b2 (lmpOut 32 b 0).length c2) (lmpOut 32 b 0)) ⟨(by rw [hg5]; first | exact UA.new zeroU _ | exact (UA.new zeroU _).drew), (by repeat (first | exact HI.out | apply RdI.drew | apply RdI.drewN | apply RdI.alloc)), (by rw [hg5]; exact RdI.glt (by repeat (first | exact HI.out | apply RdI.drew | apply RdI.drewN | apply RdI.alloc))), (by repeat (first | exact HO.out | apply own_drew | apply own_drewN' | apply Own.alloc))⟩ ?_
        rintro v2 ⟨hu, hi, hgg, ho⟩
        have HU := Lib.hid hu
        have HGG := Lib.hid hgg
        clear HI
        have HI := Lib.hid hi
        clear HO
        have HO := Lib.hid ho
        clear ho
        clear hu hi hgg hg5
        refine hK.out _ _ ?_ (fun hHeld => ?_)
        · (try dsimp only); (first | done | trivial)
        clear hK K
        try simp only [Act.put, List.setIfInBounds_toArray, List.set_cons_zero, List.set_cons_succ]
        refine wpAnyH_ready (rs := [2, 4]) (by kernel_rfl) (by simp) ?_
        refine AllReadyH.cons (by simp only [List.getElem?_toArray, List.getElem?_cons_succ, List.getElem?_cons_zero]; first | done | rfl) (fun K hK => ?_) ?_
        · skip
          refine step_conv_bs rfl (.tmp 13) rfl rfl (Own.rd (by repeat (first | exact HO.out | apply own_drew | apply own_drewN' | apply Own.alloc))) ?_
          refine hK.out _ _ ?_ (fun hHeld => ?_)
          · (try dsimp only); (first | done | trivial)
          clear hK K
          try simp only [Act.put, List.setIfInBounds_toArray, List.set_cons_zero, List.set_cons_succ]
          refine wpAnyH_ready (rs := [4]) (by kernel_rfl) (by simp) ?_
          refine AllReadyH.cons (by simp only [List.getElem?_toArray, List.getElem?_cons_succ, List.getElem?_cons_zero]; first | done | rfl) (fun K hK => ?_) ?_
          · skip
            refine step_call rfl (num_u g b 0 _ (RdI.rdr (by repeat (first | exact HI.out | apply RdI.drew | apply RdI.drewN | apply RdI.alloc))) hl) (by go_simp) ?_
            rintro e v2 ⟨rfl, hr, hg⟩
            refine ⟨_, rfl, ?_⟩
            have HI' := Lib.hid (RdI.read (z' := ust b 1) (by repeat (first | exact HI.out | apply RdI.drew | apply RdI.drewN | apply RdI.alloc)) hr hg)
            have HU' := Lib.hid (UA.grown (by repeat (first | exact HU.out | apply UA.drew | apply UA.drewN | apply UA.alloc)) hg (fun e => by have := HGG.out; simp at e; omega))
            clear hr hg
            have HI := HI'
            have HU := HU'
            clear HI' HU'
            refine hK.out _ _ ?_ (fun hHeld => ?_)
            · (try dsimp only); (first | done | trivial)
            clear hK K
            try simp only [Act.put, List.setIfInBounds_toArray, List.set_cons_zero, List.set_cons_succ]
            refine wpAnyH_ready (rs := [5]) (by kernel_rfl) (by simp) ?_
            refine AllReadyH.cons (by simp only [List.getElem?_toArray, List.getElem?_cons_succ, List.getElem?_cons_zero]; first | done | rfl) (fun K hK => ?_) ?_
            · skip
              refine step_call rfl (nearU_any (ust b 0).num _ (RS.num_bd _).1 (RS.num_bd _).2) (by go_simp) ?_
              rintro e _ ⟨rfl, rfl⟩
              refine ⟨_, rfl, ?_⟩
              refine hK.out _ _ ?_ (fun hHeld => ?_)
              · (try dsimp only); (first | done | trivial)
              clear hK K
              try simp only [Act.put, List.setIfInBounds_toArray, List.set_cons_zero, List.set_cons_succ]
              refine wpAnyH_ready (rs := [7]) (by kernel_rfl) (by simp) ?_
              refine AllReadyH.cons (by simp only [List.getElem?_toArray, List.getElem?_cons_succ, List.getElem?_cons_zero]; first | done | rfl) (fun K hK => ?_) ?_
              · skip
                refine step_call rfl (num_u g b 1 _ (RdI.rdr (by repeat (first | exact HI.out | apply RdI.drew | apply RdI.drewN | apply RdI.alloc))) hl) (by go_simp) ?_
                rintro e v2 ⟨rfl, hr, hg⟩
                refine ⟨_, rfl, ?_⟩
                have HI' := Lib.hid (RdI.read (z' := ust b 2) (by repeat (first | exact HI.out | apply RdI.drew | apply RdI.drewN | apply RdI.alloc)) hr hg)
                have HU' := Lib.hid (UA.grown (by repeat (first | exact HU.out | apply UA.drew | apply UA.drewN | apply UA.alloc)) hg (fun e => by have := HGG.out; simp at e; omega))
                clear hr hg
                have HI := HI'
                have HU := HU'
                clear HI' HU'
                refine hK.out _ _ ?_ (fun hHeld => ?_)
                · (try dsimp only); (first | done | trivial)
                clear hK K
                try simp only [Act.put, List.setIfInBounds_toArray, List.set_cons_zero, List.set_cons_succ]
                refine wpAnyH_ready (rs := [9]) (by kernel_rfl) (by simp) ?_
                refine AllReadyH.cons (by simp only [List.getElem?_toArray, List.getElem?_cons_succ, List.getElem?_cons_zero]; first | done | rfl) (fun K hK => ?_) ?_
                · skip
                  refine step_call rfl (num_u g b 2 _ (RdI.rdr (by repeat (first | exact HI.out | apply RdI.drew | apply RdI.drewN | apply RdI.alloc))) hl) (by go_simp) ?_
                  rintro e v2 ⟨rfl, hr, hg⟩
                  refine ⟨_, rfl, ?_⟩
                  have HI' := Lib.hid (RdI.read (z' := ust b 3) (by repeat (first | exact HI.out | apply RdI.drew | apply RdI.drewN | apply RdI.alloc)) hr hg)
                  have HU' := Lib.hid (UA.grown (by repeat (first | exact HU.out | apply UA.drew | apply UA.drewN | apply UA.alloc)) hg (fun e => by have := HGG.out; simp at e; omega))
                  clear hr hg
                  have HI := HI'
                  have HU := HU'
                  clear HI' HU'
                  refine hK.out _ _ ?_ (fun hHeld => ?_)
                  · (try dsimp only); (first | done | trivial)
                  clear hK K
                  try simp only [Act.put, List.setIfInBounds_toArray, List.set_cons_zero, List.set_cons_succ]
                  refine wpAnyH_ready (rs := [10]) (by kernel_rfl) (by simp) ?_
                  refine AllReadyH.cons (by simp only [List.getElem?_toArray, List.getElem?_cons_succ, List.getElem?_cons_zero]; first | done | rfl) (fun K hK => ?_) ?_
                  · skip
                    refine step_call rfl (nearU_any (ust b 2).num _ (RS.num_bd _).1 (RS.num_bd _).2) (by go_simp) ?_
                    rintro e _ ⟨rfl, rfl⟩
                    refine ⟨_, rfl, ?_⟩
                    refine hK.out _ _ ?_ (fun hHeld => ?_)
                    · (try dsimp only); (first | done | trivial)
                    clear hK K
                    try simp only [Act.put, List.setIfInBounds_toArray, List.set_cons_zero, List.set_cons_succ]
                    refine wpAnyH_take (i := 11) (v := ?_) (by simp only [List.getElem?_toArray, List.getElem?_cons_succ, List.getElem?_cons_zero]; first | done | rfl) (by kernel_rfl) (by kernel_rfl) (by kernel_rfl) (fun _ _ _ h => h) (Or.inl ⟨by rfl, ?hy⟩) (by assumption) ?_
                    case hy => (intro w hSw; (try dsimp only at hSw); go_simp; all_goals with_reducible rfl)
                    try simp only [Act.put, List.setIfInBounds_toArray, List.set_cons_zero, List.set_cons_succ]
                    refine wpAnyH_ready (rs := [13]) (by kernel_rfl) (by simp) ?_
                    refine AllReadyH.cons (by simp only [List.getElem?_toArray, List.getElem?_cons_succ, List.getElem?_cons_zero]; first | done | rfl) (fun K hK => ?_) ?_
                    · skip
                      refine step_store_up rfl (.tmp 5) (.tmp 23) rfl g5 (preU b) rfl rfl zeroU (by repeat (first | exact HU.out | apply UA.drew | apply UA.drewN | apply UA.alloc)) ?_
                      intro v2 hv2
                      have HG := Lib.hid (show RdI w v2 g (ust b 3) ∧ UA g5 (preU b) v2 from ⟨by rw [hv2]; exact RdI.setRow (by repeat (first | exact HI.out | apply RdI.drew | apply RdI.drewN | apply RdI.alloc)) HGG.out _, by rw [hv2]; exact ⟨setRow_heap _ _ _ _ _ _ (UA.row (by repeat (first | exact HU.out | apply UA.drew | apply UA.drewN | apply UA.alloc)))⟩⟩)
                      clear hv2
                      refine hK.out _ _ ?_ (fun hHeld => ?_)
                      · (try dsimp only); (first | done | trivial)
                      clear hK K
                      try simp only [Act.put, List.setIfInBounds_toArray, List.set_cons_zero, List.set_cons_succ]
                      refine wpAnyH_done (by kernel_rfl) ?_ _
                      refine NoPanic.normal ?_
                      go_wp2_with fail
                      go_meet
                      exact ⟨g5, rfl, HG.out.1, HG.out.2, HGG.out⟩
                    exact AllReadyH.nil
                  exact AllReadyH.nil
                exact AllReadyH.nil
              exact AllReadyH.nil
            exact AllReadyH.nil
          exact AllReadyH.nil
        refine AllReadyH.cons (by simp only [List.getElem?_toArray, List.getElem?_cons_succ, List.getElem?_cons_zero]; first | done | rfl) (fun K hK => ?_) ?_
        · skip
          refine step_call rfl (num_u g b 0 _ (RdI.rdr (by repeat (first | exact HI.out | apply RdI.drew | apply RdI.drewN | apply RdI.alloc))) hl) (by go_simp) ?_
          rintro e v2 ⟨rfl, hr, hg⟩
          refine ⟨_, rfl, ?_⟩
          have HI' := Lib.hid (RdI.read (z' := ust b 1) (by repeat (first | exact HI.out | apply RdI.drew | apply RdI.drewN | apply RdI.alloc)) hr hg)
          have HO' := Lib.hid (Own.grownG (by repeat (first | exact HO.out | apply own_drew | apply own_drewN' | apply Own.alloc)) hg)
          have HU' := Lib.hid (UA.grown (by repeat (first | exact HU.out | apply UA.drew | apply UA.drewN | apply UA.alloc)) hg (fun e => by have := HGG.out; simp at e; omega))
          clear hr hg
          have HI := HI'
          have HO := HO'
          have HU := HU'
          clear HI' HO' HU'
          refine hK.out _ _ ?_ (fun hHeld => ?_)
          · (try dsimp only); (first | done | trivial)
          clear hK K
          try simp only [Act.put, List.setIfInBounds_toArray, List.set_cons_zero, List.set_cons_succ]
          refine wpAnyH_ready (rs := [2, 5]) (by kernel_rfl) (by simp) ?_
          refine AllReadyH.cons (by simp only [List.getElem?_toArray, List.getElem?_cons_succ, List.getElem?_cons_zero]; first | done | rfl) (fun K hK => ?_) ?_
          · skip
            refine step_conv_bs rfl (.tmp 13) rfl rfl (Own.rd (by repeat (first | exact HO.out | apply own_drew | apply own_drewN' | apply Own.alloc))) ?_
            refine hK.out _ _ ?_ (fun hHeld => ?_)
            · (try dsimp only); (first | done | trivial)
            clear hK K
            try simp only [Act.put, List.setIfInBounds_toArray, List.set_cons_zero, List.set_cons_succ]
            refine wpAnyH_ready (rs := [5]) (by kernel_rfl) (by simp) ?_
            refine AllReadyH.cons (by simp only [List.getElem?_toArray, List.getElem?_cons_succ, List.getElem?_cons_zero]; first | done | rfl) (fun K hK => ?_) ?_
            · skip
              refine step_call rfl (nearU_any (ust b 0).num _ (RS.num_bd _).1 (RS.num_bd _).2) (by go_simp) ?_
              rintro e _ ⟨rfl, rfl⟩
              refine ⟨_, rfl, ?_⟩
              refine hK.out _ _ ?_ (fun hHeld => ?_)
              · (try dsimp only); (first | done | trivial)
              clear hK K
              try simp only [Act.put, List.setIfInBounds_toArray, List.set_cons_zero, List.set_cons_succ]
              refine wpAnyH_ready (rs := [7]) (by kernel_rfl) (by simp) ?_
              refine AllReadyH.cons (by simp only [List.getElem?_toArray, List.getElem?_cons_succ, List.getElem?_cons_zero]; first | done | rfl) (fun K hK => ?_) ?_
              · skip
                refine step_call rfl (num_u g b 1 _ (RdI.rdr (by repeat (first | exact HI.out | apply RdI.drew | apply RdI.drewN | apply RdI.alloc))) hl) (by go_simp) ?_
                rintro e v2 ⟨rfl, hr, hg⟩
                refine ⟨_, rfl, ?_⟩
                have HI' := Lib.hid (RdI.read (z' := ust b 2) (by repeat (first | exact HI.out | apply RdI.drew | apply RdI.drewN | apply RdI.alloc)) hr hg)
                have HU' := Lib.hid (UA.grown (by repeat (first | exact HU.out | apply UA.drew | apply UA.drewN | apply UA.alloc)) hg (fun e => by have := HGG.out; simp at e; omega))
                clear hr hg
                have HI := HI'
                have HU := HU'
                clear HI' HU'
                refine hK.out _ _ ?_ (fun hHeld => ?_)
                · (try dsimp only); (first | done | trivial)
                clear hK K
                try simp only [Act.put, List.setIfInBounds_toArray, List.set_cons_zero, List.set_cons_succ]
                refine wpAnyH_ready (rs := [9]) (by kernel_rfl) (by simp) ?_
                refine AllReadyH.cons (by simp only [List.getElem?_toArray, List.getElem?_cons_succ, List.getElem?_cons_zero]; first | done | rfl) (fun K hK => ?_) ?_
                · skip
                  refine step_call rfl (num_u g b 2 _ (RdI.rdr (by repeat (first | exact HI.out | apply RdI.drew | apply RdI.drewN | apply RdI.alloc))) hl) (by go_simp) ?_
                  rintro e v2 ⟨rfl, hr, hg⟩
                  refine ⟨_, rfl, ?_⟩
                  have HI' := Lib.hid (RdI.read (z' := ust b 3) (by repeat (first | exact HI.out | apply RdI.drew | apply RdI.drewN | apply RdI.alloc)) hr hg)
                  have HU' := Lib.hid (UA.grown (by repeat (first | exact HU.out | apply UA.drew | apply UA.drewN | apply UA.alloc)) hg (fun e => by have := HGG.out; simp at e; omega))
                  clear hr hg
                  have HI := HI'
                  have HU := HU'
                  clear HI' HU'
                  refine hK.out _ _ ?_ (fun hHeld => ?_)
                  · (try dsimp only); (first | done | trivial)
                  clear hK K
                  try simp only [Act.put, List.setIfInBounds_toArray, List.set_cons_zero, List.set_cons_succ]
                  refine wpAnyH_ready (rs := [10]) (by kernel_rfl) (by simp) ?_
                  refine AllReadyH.cons (by simp only [List.getElem?_toArray, List.getElem?_cons_succ, List.getElem?_cons_zero]; first | done | rfl) (fun K hK => ?_) ?_
                  · skip
                    refine step_call rfl (nearU_any (ust b 2).num _ (RS.num_bd _).1 (RS.num_bd _).2) (by go_simp) ?_
                    rintro e _ ⟨rfl, rfl⟩
                    refine ⟨_, rfl, ?_⟩
                    refine hK.out _ _ ?_ (fun hHeld => ?_)
                    · (try dsimp only); (first | done | trivial)
                    clear hK K
                    try simp only [Act.put, List.setIfInBounds_toArray, List.set_cons_zero, List.set_cons_succ]
                    refine wpAnyH_take (i := 11) (v := ?_) (by simp only [List.getElem?_toArray, List.getElem?_cons_succ, List.getElem?_cons_zero]; first | done | rfl) (by kernel_rfl) (by kernel_rfl) (by kernel_rfl) (fun _ _ _ h => h) (Or.inl ⟨by rfl, ?hy⟩) (by assumption) ?_
                    case hy => (intro w hSw; (try dsimp only at hSw); go_simp; all_goals with_reducible rfl)
                    try simp only [Act.put, List.setIfInBounds_toArray, List.set_cons_zero, List.set_cons_succ]
                    refine wpAnyH_ready (rs := [13]) (by kernel_rfl) (by simp) ?_
                    refine AllReadyH.cons (by simp only [List.getElem?_toArray, List.getElem?_cons_succ, List.getElem?_cons_zero]; first | done | rfl) (fun K hK => ?_) ?_
                    · skip
                      refine step_store_up rfl (.tmp 5) (.tmp 23) rfl g5 (preU b) rfl rfl zeroU (by repeat (first | exact HU.out | apply UA.drew | apply UA.drewN | apply UA.alloc)) ?_
                      intro v2 hv2
                      have HG := Lib.hid (show RdI w v2 g (ust b 3) ∧ UA g5 (preU b) v2 from ⟨by rw [hv2]; exact RdI.setRow (by repeat (first | exact HI.out | apply RdI.drew | apply RdI.drewN | apply RdI.alloc)) HGG.out _, by rw [hv2]; exact ⟨setRow_heap _ _ _ _ _ _ (UA.row (by repeat (first | exact HU.out | apply UA.drew | apply UA.drewN | apply UA.alloc)))⟩⟩)
                      clear hv2
                      refine hK.out _ _ ?_ (fun hHeld => ?_)
                      · (try dsimp only); (first | done | trivial)
                      clear hK K
                      try simp only [Act.put, List.setIfInBounds_toArray, List.set_cons_zero, List.set_cons_succ]
                      refine wpAnyH_done (by kernel_rfl) ?_ _
                      refine NoPanic.normal ?_
                      go_wp2_with fail
                      go_meet
                      exact ⟨g5, rfl, HG.out.1, HG.out.2, HGG.out⟩
                    exact AllReadyH.nil
                  exact AllReadyH.nil
                exact AllReadyH.nil
              exact AllReadyH.nil
            exact AllReadyH.nil
          refine AllReadyH.cons (by simp only [List.getElem?_toArray, List.getElem?_cons_succ, List.getElem?_cons_zero]; first | done | rfl) (fun K hK => ?_) ?_
          · skip
            refine step_call rfl (nearU_any (ust b 0).num _ (RS.num_bd _).1 (RS.num_bd _).2) (by go_simp) ?_
            rintro e _ ⟨rfl, rfl⟩
            refine ⟨_, rfl, ?_⟩
            refine hK.out _ _ ?_ (fun hHeld => ?_)
            · (try dsimp only); (first | done | trivial)
            clear hK K
            try simp only [Act.put, List.setIfInBounds_toArray, List.set_cons_zero, List.set_cons_succ]
            refine wpAnyH_ready (rs := [2, 7]) (by kernel_rfl) (by simp) ?_
            refine AllReadyH.cons (by simp only [List.getElem?_toArray, List.getElem?_cons_succ, List.getElem?_cons_zero]; first | done | rfl) (fun K hK => ?_) ?_
            · skip
              refine step_conv_bs rfl (.tmp 13) rfl rfl (Own.rd (by repeat (first | exact HO.out | apply own_drew | apply own_drewN' | apply Own.alloc))) ?_
              refine hK.out _ _ ?_ (fun hHeld => ?_)
              · (try dsimp only); (first | done | trivial)
              clear hK K
              try simp only [Act.put, List.setIfInBounds_toArray, List.set_cons_zero, List.set_cons_succ]
              refine wpAnyH_ready (rs := [7]) (by kernel_rfl) (by simp) ?_
              refine AllReadyH.cons (by simp only [List.getElem?_toArray, List.getElem?_cons_succ, List.getElem?_cons_zero]; first | done | rfl) (fun K hK => ?_) ?_
              · skip
                refine step_call rfl (num_u g b 1 _ (RdI.rdr (by repeat (first | exact HI.out | apply RdI.drew | apply RdI.drewN | apply RdI.alloc))) hl) (by go_simp) ?_
                rintro e v2 ⟨rfl, hr, hg⟩
                refine ⟨_, rfl, ?_⟩
                have HI' := Lib.hid (RdI.read (z' := ust b 2) (by repeat (first | exact HI.out | apply RdI.drew | apply RdI.drewN | apply RdI.alloc)) hr hg)
                have HU' := Lib.hid (UA.grown (by repeat (first | exact HU.out | apply UA.drew | apply UA.drewN | apply UA.alloc)) hg (fun e => by have := HGG.out; simp at e; omega))
                clear hr hg
                have HI := HI'
                have HU := HU'
                clear HI' HU'
                refine hK.out _ _ ?_ (fun hHeld => ?_)
                · (try dsimp only); (first | done | trivial)
                clear hK K
                try simp only [Act.put, List.setIfInBounds_toArray, List.set_cons_zero, List.set_cons_succ]
                refine wpAnyH_ready (rs := [9]) (by kernel_rfl) (by simp) ?_
                refine AllReadyH.cons (by simp only [List.getElem?_toArray, List.getElem?_cons_succ, List.getElem?_cons_zero]; first | done | rfl) (fun K hK => ?_) ?_
                · skip
                  refine step_call rfl (num_u g b 2 _ (RdI.rdr (by repeat (first | exact HI.out | apply RdI.drew | apply RdI.drewN | apply RdI.alloc))) hl) (by go_simp) ?_
                  rintro e v2 ⟨rfl, hr, hg⟩
                  refine ⟨_, rfl, ?_⟩
                  have HI' := Lib.hid (RdI.read (z' := ust b 3) (by repeat (first | exact HI.out | apply RdI.drew | apply RdI.drewN | apply RdI.alloc)) hr hg)
                  have HU' := Lib.hid (UA.grown (by repeat (first | exact HU.out | apply UA.drew | apply UA.drewN | apply UA.alloc)) hg (fun e => by have := HGG.out; simp at e; omega))
                  clear hr hg
                  have HI := HI'
                  have HU := HU'
                  clear HI' HU'
                  refine hK.out _ _ ?_ (fun hHeld => ?_)
                  · (try dsimp only); (first | done | trivial)
                  clear hK K
                  try simp only [Act.put, List.setIfInBounds_toArray, List.set_cons_zero, List.set_cons_succ]
                  refine wpAnyH_ready (rs := [10]) (by kernel_rfl) (by simp) ?_
                  refine AllReadyH.cons (by simp only [List.getElem?_toArray, List.getElem?_cons_succ, List.getElem?_cons_zero]; first | done | rfl) (fun K hK => ?_) ?_
                  · skip
                    refine step_call rfl (nearU_any (ust b 2).num _ (RS.num_bd _).1 (RS.num_bd _).2) (by go_simp) ?_
                    rintro e _ ⟨rfl, rfl⟩
                    refine ⟨_, rfl, ?_⟩
                    refine hK.out _ _ ?_ (fun hHeld => ?_)
                    · (try dsimp only); (first | done | trivial)
                    clear hK K
                    try simp only [Act.put, List.setIfInBounds_toArray, List.set_cons_zero, List.set_cons_succ]
                    refine wpAnyH_take (i := 11) (v := ?_) (by simp only [List.getElem?_toArray, List.getElem?_cons_succ, List.getElem?_cons_zero]; first | done | rfl) (by kernel_rfl) (by kernel_rfl) (by kernel_rfl) (fun _ _ _ h => h) (Or.inl ⟨by rfl, ?hy⟩) (by assumption) ?_
                    case hy => (intro w hSw; (try dsimp only at hSw); go_simp; all_goals with_reducible rfl)
                    try simp only [Act.put, List.setIfInBounds_toArray, List.set_cons_zero, List.set_cons_succ]
                    refine wpAnyH_ready (rs := [13]) (by kernel_rfl) (by simp) ?_
                    refine AllReadyH.cons (by simp only [List.getElem?_toArray, List.getElem?_cons_succ, List.getElem?_cons_zero]; first | done | rfl) (fun K hK => ?_) ?_
                    · skip
                      refine step_store_up rfl (.tmp 5) (.tmp 23) rfl g5 (preU b) rfl rfl zeroU (by repeat (first | exact HU.out | apply UA.drew | apply UA.drewN | apply UA.alloc)) ?_
                      intro v2 hv2
                      have HG := Lib.hid (show RdI w v2 g (ust b 3) ∧ UA g5 (preU b) v2 from ⟨by rw [hv2]; exact RdI.setRow (by repeat (first | exact HI.out | apply RdI.drew | apply RdI.drewN | apply RdI.alloc)) HGG.out _, by rw [hv2]; exact ⟨setRow_heap _ _ _ _ _ _ (UA.row (by repeat (first | exact HU.out | apply UA.drew | apply UA.drewN | apply UA.alloc)))⟩⟩)
                      clear hv2
                      refine hK.out _ _ ?_ (fun hHeld => ?_)
                      · (try dsimp only); (first | done | trivial)
                      clear hK K
                      try simp only [Act.put, List.setIfInBounds_toArray, List.set_cons_zero, List.set_cons_succ]
                      refine wpAnyH_done (by kernel_rfl) ?_ _
                      refine NoPanic.normal ?_
                      go_wp2_with fail
                      go_meet
                      exact ⟨g5, rfl, HG.out.1, HG.out.2, HGG.out⟩
                    exact AllReadyH.nil
                  exact AllReadyH.nil
                exact AllReadyH.nil
              exact AllReadyH.nil
            refine AllReadyH.cons (by simp only [List.getElem?_toArray, List.getElem?_cons_succ, List.getElem?_cons_zero]; first | done | rfl) (fun K hK => ?_) ?_
            · skip
              refine step_call rfl (num_u g b 1 _ (RdI.rdr (by repeat (first | exact HI.out | apply RdI.drew | apply RdI.drewN | apply RdI.alloc))) hl) (by go_simp) ?_
              rintro e v2 ⟨rfl, hr, hg⟩
              refine ⟨_, rfl, ?_⟩
              have HI' := Lib.hid (RdI.read (z' := ust b 2) (by repeat (first | exact HI.out | apply RdI.drew | apply RdI.drewN | apply RdI.alloc)) hr hg)
              have HO' := Lib.hid (Own.grownG (by repeat (first | exact HO.out | apply own_drew | apply own_drewN' | apply Own.alloc)) hg)
              have HU' := Lib.hid (UA.grown (by repeat (first | exact HU.out | apply UA.drew | apply UA.drewN | apply UA.alloc)) hg (fun e => by have := HGG.out; simp at e; omega))
              clear hr hg
              have HI := HI'
              have HO := HO'
              have HU := HU'
              clear HI' HO' HU'
              refine hK.out _ _ ?_ (fun hHeld => ?_)
              · (try dsimp only); (first | done | trivial)
              clear hK K
              try simp only [Act.put, List.setIfInBounds_toArray, List.set_cons_zero, List.set_cons_succ]
              refine wpAnyH_ready (rs := [2, 9]) (by kernel_rfl) (by simp) ?_
              refine AllReadyH.cons (by simp only [List.getElem?_toArray, List.getElem?_cons_succ, List.getElem?_cons_zero]; first | done | rfl) (fun K hK => ?_) ?_
              · skip
                refine step_conv_bs rfl (.tmp 13) rfl rfl (Own.rd (by repeat (first | exact HO.out | apply own_drew | apply own_drewN' | apply Own.alloc))) ?_
                refine hK.out _ _ ?_ (fun hHeld => ?_)
                · (try dsimp only); (first | done | trivial)
                clear hK K
                try simp only [Act.put, List.setIfInBounds_toArray, List.set_cons_zero, List.set_cons_succ]
                refine wpAnyH_ready (rs := [9]) (by kernel_rfl) (by simp) ?_
                refine AllReadyH.cons (by simp only [List.getElem?_toArray, List.getElem?_cons_succ, List.getElem?_cons_zero]; first | done | rfl) (fun K hK => ?_) ?_
                · skip
                  refine step_call rfl (num_u g b 2 _ (RdI.rdr (by repeat (first | exact HI.out | apply RdI.drew | apply RdI.drewN | apply RdI.alloc))) hl) (by go_simp) ?_
                  rintro e v2 ⟨rfl, hr, hg⟩
                  refine ⟨_, rfl, ?_⟩
                  have HI' := Lib.hid (RdI.read (z' := ust b 3) (by repeat (first | exact HI.out | apply RdI.drew | apply RdI.drewN | apply RdI.alloc)) hr hg)
                  have HU' := Lib.hid (UA.grown (by repeat (first | exact HU.out | apply UA.drew | apply UA.drewN | apply UA.alloc)) hg (fun e => by have := HGG.out; simp at e; omega))
                  clear hr hg
                  have HI := HI'
                  have HU := HU'
                  clear HI' HU'
                  refine hK.out _ _ ?_ (fun hHeld => ?_)
                  · (try dsimp only); (first | done | trivial)
                  clear hK K
                  try simp only [Act.put, List.setIfInBounds_toArray, List.set_cons_zero, List.set_cons_succ]
                  refine wpAnyH_ready (rs := [10]) (by kernel_rfl) (by simp) ?_
                  refine AllReadyH.cons (by simp only [List.getElem?_toArray, List.getElem?_cons_succ, List.getElem?_cons_zero]; first | done | rfl) (fun K hK => ?_) ?_
                  · skip
                    refine step_call rfl (nearU_any (ust b 2).num _ (RS.num_bd _).1 (RS.num_bd _).2) (by go_simp) ?_
                    rintro e _ ⟨rfl, rfl⟩
                    refine ⟨_, rfl, ?_⟩
                    refine hK.out _ _ ?_ (fun hHeld => ?_)
                    · (try dsimp only); (first | done | trivial)
                    clear hK K
                    try simp only [Act.put, List.setIfInBounds_toArray, List.set_cons_zero, List.set_cons_succ]
                    refine wpAnyH_take (i := 11) (v := ?_) (by simp only [List.getElem?_toArray, List.getElem?_cons_succ, List.getElem?_cons_zero]; first | done | rfl) (by kernel_rfl) (by kernel_rfl) (by kernel_rfl) (fun _ _ _ h => h) (Or.inl ⟨by rfl, ?hy⟩) (by assumption) ?_
                    case hy => (intro w hSw; (try dsimp only at hSw); go_simp; all_goals with_reducible rfl)
                    try simp only [Act.put, List.setIfInBounds_toArray, List.set_cons_zero, List.set_cons_succ]
                    refine wpAnyH_ready (rs := [13]) (by kernel_rfl) (by simp) ?_
                    refine AllReadyH.cons (by simp only [List.getElem?_toArray, List.getElem?_cons_succ, List.getElem?_cons_zero]; first | done | rfl) (fun K hK => ?_) ?_
                    · skip
                      refine step_store_up rfl (.tmp 5) (.tmp 23) rfl g5 (preU b) rfl rfl zeroU (by repeat (first | exact HU.out | apply UA.drew | apply UA.drewN | apply UA.alloc)) ?_
                      intro v2 hv2
                      have HG := Lib.hid (show RdI w v2 g (ust b 3) ∧ UA g5 (preU b) v2 from ⟨by rw [hv2]; exact RdI.setRow (by repeat (first | exact HI.out | apply RdI.drew | apply RdI.drewN | apply RdI.alloc)) HGG.out _, by rw [hv2]; exact ⟨setRow_heap _ _ _ _ _ _ (UA.row (by repeat (first | exact HU.out | apply UA.drew | apply UA.drewN | apply UA.alloc)))⟩⟩)
                      clear hv2
                      refine hK.out _ _ ?_ (fun hHeld => ?_)
                      · (try dsimp only); (first | done | trivial)
                      clear hK K
                      try simp only [Act.put, List.setIfInBounds_toArray, List.set_cons_zero, List.set_cons_succ]
                      refine wpAnyH_done (by kernel_rfl) ?_ _
                      refine NoPanic.normal ?_
                      go_wp2_with fail
                      go_meet
                      exact ⟨g5, rfl, HG.out.1, HG.out.2, HGG.out⟩
                    exact AllReadyH.nil
                  exact AllReadyH.nil
                exact AllReadyH.nil
              refine AllReadyH.cons (by simp only [List.getElem?_toArray, List.getElem?_cons_succ, List.getElem?_cons_zero]; first | done | rfl) (fun K hK => ?_) ?_
              · skip
                refine step_call rfl (num_u g b 2 _ (RdI.rdr (by repeat (first | exact HI.out | apply RdI.drew | apply RdI.drewN | apply RdI.alloc))) hl) (by go_simp) ?_
                rintro e v2 ⟨rfl, hr, hg⟩
                refine ⟨_, rfl, ?_⟩
                have HI' := Lib.hid (RdI.read (z' := ust b 3) (by repeat (first | exact HI.out | apply RdI.drew | apply RdI.drewN | apply RdI.alloc)) hr hg)
                have HO' := Lib.hid (Own.grownG (by repeat (first | exact HO.out | apply own_drew | apply own_drewN' | apply Own.alloc)) hg)
                have HU' := Lib.hid (UA.grown (by repeat (first | exact HU.out | apply UA.drew | apply UA.drewN | apply UA.alloc)) hg (fun e => by have := HGG.out; simp at e; omega))
                clear hr hg
                have HI := HI'
                have HO := HO'
                have HU := HU'
                clear HI' HO' HU'
                refine hK.out _ _ ?_ (fun hHeld => ?_)
                · (try dsimp only); (first | done | trivial)
                clear hK K
                try simp only [Act.put, List.setIfInBounds_toArray, List.set_cons_zero, List.set_cons_succ]
                refine wpAnyH_ready (rs := [2, 10]) (by kernel_rfl) (by simp) ?_
                refine AllReadyH.cons (by simp only [List.getElem?_toArray, List.getElem?_cons_succ, List.getElem?_cons_zero]; first | done | rfl) (fun K hK => ?_) ?_
                · skip
                  refine step_conv_bs rfl (.tmp 13) rfl rfl (Own.rd (by repeat (first | exact HO.out | apply own_drew | apply own_drewN' | apply Own.alloc))) ?_
                  refine hK.out _ _ ?_ (fun hHeld => ?_)
                  · (try dsimp only); (first | done | trivial)
                  clear hK K
                  try simp only [Act.put, List.setIfInBounds_toArray, List.set_cons_zero, List.set_cons_succ]
                  refine wpAnyH_ready (rs := [10]) (by kernel_rfl) (by simp) ?_
                  refine AllReadyH.cons (by simp only [List.getElem?_toArray, List.getElem?_cons_succ, List.getElem?_cons_zero]; first | done | rfl) (fun K hK => ?_) ?_
                  · skip
                    refine step_call rfl (nearU_any (ust b 2).num _ (RS.num_bd _).1 (RS.num_bd _).2) (by go_simp) ?_
                    rintro e _ ⟨rfl, rfl⟩
                    refine ⟨_, rfl, ?_⟩
                    refine hK.out _ _ ?_ (fun hHeld => ?_)
                    · (try dsimp only); (first | done | trivial)
                    clear hK K
                    try simp only [Act.put, List.setIfInBounds_toArray, List.set_cons_zero, List.set_cons_succ]
                    refine wpAnyH_take (i := 11) (v := ?_) (by simp only [List.getElem?_toArray, List.getElem?_cons_succ, List.getElem?_cons_zero]; first | done | rfl) (by kernel_rfl) (by kernel_rfl) (by kernel_rfl) (fun _ _ _ h => h) (Or.inl ⟨by rfl, ?hy⟩) (by assumption) ?_
                    case hy => (intro w hSw; (try dsimp only at hSw); go_simp; all_goals with_reducible rfl)
                    try simp only [Act.put, List.setIfInBounds_toArray, List.set_cons_zero, List.set_cons_succ]
                    refine wpAnyH_ready (rs := [13]) (by kernel_rfl) (by simp) ?_
                    refine AllReadyH.cons (by simp only [List.getElem?_toArray, List.getElem?_cons_succ, List.getElem?_cons_zero]; first | done | rfl) (fun K hK => ?_) ?_
                    · skip
                      refine step_store_up rfl (.tmp 5) (.tmp 23) rfl g5 (preU b) rfl rfl zeroU (by repeat (first | exact HU.out | apply UA.drew | apply UA.drewN | apply UA.alloc)) ?_
                      intro v2 hv2
                      have HG := Lib.hid (show RdI w v2 g (ust b 3) ∧ UA g5 (preU b) v2 from ⟨by rw [hv2]; exact RdI.setRow (by repeat (first | exact HI.out | apply RdI.drew | apply RdI.drewN | apply RdI.alloc)) HGG.out _, by rw [hv2]; exact ⟨setRow_heap _ _ _ _ _ _ (UA.row (by repeat (first | exact HU.out | apply UA.drew | apply UA.drewN | apply UA.alloc)))⟩⟩)
                      clear hv2
                      refine hK.out _ _ ?_ (fun hHeld => ?_)
                      · (try dsimp only); (first | done | trivial)
                      clear hK K
                      try simp only [Act.put, List.setIfInBounds_toArray, List.set_cons_zero, List.set_cons_succ]
                      refine wpAnyH_done (by kernel_rfl) ?_ _
                      refine NoPanic.normal ?_
                      go_wp2_with fail
                      go_meet
                      exact ⟨g5, rfl, HG.out.1, HG.out.2, HGG.out⟩
                    exact AllReadyH.nil
                  exact AllReadyH.nil
                refine AllReadyH.cons (by simp only [List.getElem?_toArray, List.getElem?_cons_succ, List.getElem?_cons_zero]; first | done | rfl) (fun K hK => ?_) ?_
                · skip
                  refine step_call rfl (nearU_any (ust b 2).num _ (RS.num_bd _).1 (RS.num_bd _).2) (by go_simp) ?_
                  rintro e _ ⟨rfl, rfl⟩
                  refine ⟨_, rfl, ?_⟩
                  refine hK.out _ _ ?_ (fun hHeld => ?_)
                  · (try dsimp only); (first | done | trivial)
                  clear hK K
                  try simp only [Act.put, List.setIfInBounds_toArray, List.set_cons_zero, List.set_cons_succ]
                  refine wpAnyH_ready (rs := [2]) (by kernel_rfl) (by simp) ?_
                  refine AllReadyH.cons (by simp only [List.getElem?_toArray, List.getElem?_cons_succ, List.getElem?_cons_zero]; first | done | rfl) (fun K hK => ?_) ?_
                  · skip
                    refine step_conv_bs rfl (.tmp 13) rfl rfl (Own.rd (by repeat (first | exact HO.out | apply own_drew | apply own_drewN' | apply Own.alloc))) ?_
                    refine hK.out _ _ ?_ (fun hHeld => ?_)
                    · (try dsimp only); (first | done | trivial)
                    clear hK K
                    try simp only [Act.put, List.setIfInBounds_toArray, List.set_cons_zero, List.set_cons_succ]
                    refine wpAnyH_take (i := 11) (v := ?_) (by simp only [List.getElem?_toArray, List.getElem?_cons_succ, List.getElem?_cons_zero]; first | done | rfl) (by kernel_rfl) (by kernel_rfl) (by kernel_rfl) (fun _ _ _ h => h) (Or.inl ⟨by rfl, ?hy⟩) (by assumption) ?_
                    case hy => (intro w hSw; (try dsimp only at hSw); go_simp; all_goals with_reducible rfl)
                    try simp only [Act.put, List.setIfInBounds_toArray, List.set_cons_zero, List.set_cons_succ]
                    refine wpAnyH_ready (rs := [13]) (by kernel_rfl) (by simp) ?_
                    refine AllReadyH.cons (by simp only [List.getElem?_toArray, List.getElem?_cons_succ, List.getElem?_cons_zero]; first | done | rfl) (fun K hK => ?_) ?_
                    · skip
                      refine step_store_up rfl (.tmp 5) (.tmp 23) rfl g5 (preU b) rfl rfl zeroU (by repeat (first | exact HU.out | apply UA.drew | apply UA.drewN | apply UA.alloc)) ?_
                      intro v2 hv2
                      have HG := Lib.hid (show RdI w v2 g (ust b 3) ∧ UA g5 (preU b) v2 from ⟨by rw [hv2]; exact RdI.setRow (by repeat (first | exact HI.out | apply RdI.drew | apply RdI.drewN | apply RdI.alloc)) HGG.out _, by rw [hv2]; exact ⟨setRow_heap _ _ _ _ _ _ (UA.row (by repeat (first | exact HU.out | apply UA.drew | apply UA.drewN | apply UA.alloc)))⟩⟩)
                      clear hv2
                      refine hK.out _ _ ?_ (fun hHeld => ?_)
                      · (try dsimp only); (first | done | trivial)
                      clear hK K
                      try simp only [Act.put, List.setIfInBounds_toArray, List.set_cons_zero, List.set_cons_succ]
                      refine wpAnyH_done (by kernel_rfl) ?_ _
                      refine NoPanic.normal ?_
                      go_wp2_with fail
                      go_meet
                      exact ⟨g5, rfl, HG.out.1, HG.out.2, HGG.out⟩
                    exact AllReadyH.nil
                  exact AllReadyH.nil
                exact AllReadyH.nil
              exact AllReadyH.nil
            exact AllReadyH.nil
          exact AllReadyH.nil
        exact AllReadyH.nil
      exact AllReadyH.nil
    refine AllReadyH.cons (by simp only [List.getElem?_toArray, List.getElem?_cons_succ, List.getElem?_cons_zero]; first | done | rfl) (fun K hK => ?_) ?_
    · skip
      refine step_value rfl (run_alloc_op rfl (run_alloc_up _)) ?_
      try dsimp only
      obtain ⟨g5, hg5⟩ : ∃ g5, g5 = W.heap.size := ⟨_, rfl⟩
      try rw [show W.drew.heap.size = W.heap.size from rfl]
      rw [← hg5]
      refine k_world (fun W' => UA g5 zeroU W' ∧ RdI w W' g (⟨b, 0⟩) ∧ g < g5) ⟨(by rw [hg5]; first | exact UA.new zeroU _ | exact (UA.new zeroU _).drew), (by repeat (first | exact HI.out | apply RdI.drew | apply RdI.drewN | apply RdI.alloc)), (by rw [hg5]; exact RdI.glt (by repeat (first | exact HI.out | apply RdI.drew | apply RdI.drewN | apply RdI.alloc)))⟩ ?_
      rintro v2 ⟨hu, hi, hgg⟩
      have HU := Lib.hid hu
      have HGG := Lib.hid hgg
      clear HI
      have HI := Lib.hid hi
      clear hu hi hgg hg5
      refine hK.out _ _ ?_ (fun hHeld => ?_)
      · (try dsimp only); (first | done | trivial)
      clear hK K
      try simp only [Act.put, List.setIfInBounds_toArray, List.set_cons_zero, List.set_cons_succ]
      refine wpAnyH_ready (rs := [1]) (by kernel_rfl) (by simp) ?_
      refine AllReadyH.cons (by simp only [List.getElem?_toArray, List.getElem?_cons_succ, List.getElem?_cons_zero]; first | done | rfl) (fun K hK => ?_) ?_
      · skip
        refine step_call rfl (lump_u g b _ (RdI.rdr (by repeat (first | exact HI.out | apply RdI.drew | apply RdI.drewN | apply RdI.alloc))) hl) (by go_simp) ?_
        rintro e v2 ⟨u2, rfl, ho, hr, hg⟩
        refine ⟨_, rfl, ?_⟩
        obtain ⟨b2, c2, rfl⟩ := ho.rd.shape
        have HI' := Lib.hid (RdI.read (z' := ust b 0) (by repeat (first | exact HI.out | apply RdI.drew | apply RdI.drewN | apply RdI.alloc)) hr hg)
        have HO := Lib.hid (ho.mono (B' := g + 1) (RdI.glt (by repeat (first | exact HI.out | apply RdI.drew | apply RdI.drewN | apply RdI.alloc))))
        clear ho
        have HU' := Lib.hid (UA.grown (by repeat (first | exact HU.out | apply UA.drew | apply UA.drewN | apply UA.alloc)) hg (fun e => by have := HGG.out; simp at e; omega))
        clear hr hg
        have HI := HI'
        have HU := HU'
        clear HI' HU'
        refine hK.out _ _ ?_ (fun hHeld => ?_)
        · (try dsimp only); (first | done | trivial)
        clear hK K
        try simp only [Act.put, List.setIfInBounds_toArray, List.set_cons_zero, List.set_cons_succ]
        refine wpAnyH_ready (rs := [2, 4]) (by kernel_rfl) (by simp) ?_
        refine AllReadyH.cons (by simp only [List.getElem?_toArray, List.getElem?_cons_succ, List.getElem?_cons_zero]; first | done | rfl) (fun K hK => ?_) ?_
        · skip
          refine step_conv_bs rfl (.tmp 13) rfl rfl (Own.rd (by repeat (first | exact HO.out | apply own_drew | apply own_drewN' | apply Own.alloc))) ?_
          refine hK.out _ _ ?_ (fun hHeld => ?_)
          · (try dsimp only); (first | done | trivial)
          clear hK K
          try simp only [Act.put, List.setIfInBounds_toArray, List.set_cons_zero, List.set_cons_succ]
          refine wpAnyH_ready (rs := [4]) (by kernel_rfl) (by simp) ?_
          refine AllReadyH.cons (by simp only [List.getElem?_toArray, List.getElem?_cons_succ, List.getElem?_cons_zero]; first | done | rfl) (fun K hK => ?_) ?_
          · skip
            refine step_call rfl (num_u g b 0 _ (RdI.rdr (by repeat (first | exact HI.out | apply RdI.drew | apply RdI.drewN | apply RdI.alloc))) hl) (by go_simp) ?_
            rintro e v2 ⟨rfl, hr, hg⟩
            refine ⟨_, rfl, ?_⟩
            have HI' := Lib.hid (RdI.read (z' := ust b 1) (by repeat (first | exact HI.out | apply RdI.drew | apply RdI.drewN | apply RdI.alloc)) hr hg)
            have HU' := Lib.hid (UA.grown (by repeat (first | exact HU.out | apply UA.drew | apply UA.drewN | apply UA.alloc)) hg (fun e => by have := HGG.out; simp at e; omega))
            clear hr hg
            have HI := HI'
            have HU := HU'
            clear HI' HU'
            refine hK.out _ _ ?_ (fun hHeld => ?_)
            · (try dsimp only); (first | done | trivial)
            clear hK K
            try simp only [Act.put, List.setIfInBounds_toArray, List.set_cons_zero, List.set_cons_succ]
            refine wpAnyH_ready (rs := [5]) (by kernel_rfl) (by simp) ?_
            refine AllReadyH.cons (by simp only [List.getElem?_toArray, List.getElem?_cons_succ, List.getElem?_cons_zero]; first | done | rfl) (fun K hK => ?_) ?_
            · skip
              refine step_call rfl (nearU_any (ust b 0).num _ (RS.num_bd _).1 (RS.num_bd _).2) (by go_simp) ?_
              rintro e _ ⟨rfl, rfl⟩
              refine ⟨_, rfl, ?_⟩
              refine hK.out _ _ ?_ (fun hHeld => ?_)
              · (try dsimp only); (first | done | trivial)
              clear hK K
              try simp only [Act.put, List.setIfInBounds_toArray, List.set_cons_zero, List.set_cons_succ]
              refine wpAnyH_ready (rs := [7]) (by kernel_rfl) (by simp) ?_
              refine AllReadyH.cons (by simp only [List.getElem?_toArray, List.getElem?_cons_succ, List.getElem?_cons_zero]; first | done | rfl) (fun K hK => ?_) ?_
              · skip
                refine step_call rfl (num_u g b 1 _ (RdI.rdr (by repeat (first | exact HI.out | apply RdI.drew | apply RdI.drewN | apply RdI.alloc))) hl) (by go_simp) ?_
                rintro e v2 ⟨rfl, hr, hg⟩
                refine ⟨_, rfl, ?_⟩
                have HI' := Lib.hid (RdI.read (z' := ust b 2) (by repeat (first | exact HI.out | apply RdI.drew | apply RdI.drewN | apply RdI.alloc)) hr hg)
                have HU' := Lib.hid (UA.grown (by repeat (first | exact HU.out | apply UA.drew | apply UA.drewN | apply UA.alloc)) hg (fun e => by have := HGG.out; simp at e; omega))
                clear hr hg
                have HI := HI'
                have HU := HU'
                clear HI' HU'
                refine hK.out _ _ ?_ (fun hHeld => ?_)
                · (try dsimp only); (first | done | trivial)
                clear hK K
                try simp only [Act.put, List.setIfInBounds_toArray, List.set_cons_zero, List.set_cons_succ]
                refine wpAnyH_ready (rs := [9]) (by kernel_rfl) (by simp) ?_
                refine AllReadyH.cons (by simp only [List.getElem?_toArray, List.getElem?_cons_succ, List.getElem?_cons_zero]; first | done | rfl) (fun K hK => ?_) ?_
                · skip
                  refine step_call rfl (num_u g b 2 _ (RdI.rdr (by repeat (first | exact HI.out | apply RdI.drew | apply RdI.drewN | apply RdI.alloc))) hl) (by go_simp) ?_
                  rintro e v2 ⟨rfl, hr, hg⟩
                  refine ⟨_, rfl, ?_⟩
                  have HI' := Lib.hid (RdI.read (z' := ust b 3) (by repeat (first | exact HI.out | apply RdI.drew | apply RdI.drewN | apply RdI.alloc)) hr hg)
                  have HU' := Lib.hid (UA.grown (by repeat (first | exact HU.out | apply UA.drew | apply UA.drewN | apply UA.alloc)) hg (fun e => by have := HGG.out; simp at e; omega))
                  clear hr hg
                  have HI := HI'
                  have HU := HU'
                  clear HI' HU'
                  refine hK.out _ _ ?_ (fun hHeld => ?_)
                  · (try dsimp only); (first | done | trivial)
                  clear hK K
                  try simp only [Act.put, List.setIfInBounds_toArray, List.set_cons_zero, List.set_cons_succ]
                  refine wpAnyH_ready (rs := [10]) (by kernel_rfl) (by simp) ?_
                  refine AllReadyH.cons (by simp only [List.getElem?_toArray, List.getElem?_cons_succ, List.getElem?_cons_zero]; first | done | rfl) (fun K hK => ?_) ?_
                  · skip
                    refine step_call rfl (nearU_any (ust b 2).num _ (RS.num_bd _).1 (RS.num_bd _).2) (by go_simp) ?_
                    rintro e _ ⟨rfl, rfl⟩
                    refine ⟨_, rfl, ?_⟩
                    refine hK.out _ _ ?_ (fun hHeld => ?_)
                    · (try dsimp only); (first | done | trivial)
                    clear hK K
                    try simp only [Act.put, List.setIfInBounds_toArray, List.set_cons_zero, List.set_cons_succ]
                    refine wpAnyH_take (i := 11) (v := ?_) (by simp only [List.getElem?_toArray, List.getElem?_cons_succ, List.getElem?_cons_zero]; first | done | rfl) (by kernel_rfl) (by kernel_rfl) (by kernel_rfl) (fun _ _ _ h => h) (Or.inl ⟨by rfl, ?hy⟩) (by assumption) ?_
                    case hy => (intro w hSw; (try dsimp only at hSw); go_simp; all_goals with_reducible rfl)
                    try simp only [Act.put, List.setIfInBounds_toArray, List.set_cons_zero, List.set_cons_succ]
                    refine wpAnyH_ready (rs := [13]) (by kernel_rfl) (by simp) ?_
                    refine AllReadyH.cons (by simp only [List.getElem?_toArray, List.getElem?_cons_succ, List.getElem?_cons_zero]; first | done | rfl) (fun K hK => ?_) ?_
                    · skip
                      refine step_store_up rfl (.tmp 5) (.tmp 23) rfl g5 (preU b) rfl rfl zeroU (by repeat (first | exact HU.out | apply UA.drew | apply UA.drewN | apply UA.alloc)) ?_
                      intro v2 hv2
                      have HG := Lib.hid (show RdI w v2 g (ust b 3) ∧ UA g5 (preU b) v2 from ⟨by rw [hv2]; exact RdI.setRow (by repeat (first | exact HI.out | apply RdI.drew | apply RdI.drewN | apply RdI.alloc)) HGG.out _, by rw [hv2]; exact ⟨setRow_heap _ _ _ _ _ _ (UA.row (by repeat (first | exact HU.out | apply UA.drew | apply UA.drewN | apply UA.alloc)))⟩⟩)
                      clear hv2
                      refine hK.out _ _ ?_ (fun hHeld => ?_)
                      · (try dsimp only); (first | done | trivial)
                      clear hK K
                      try simp only [Act.put, List.setIfInBounds_toArray, List.set_cons_zero, List.set_cons_succ]
                      refine wpAnyH_done (by kernel_rfl) ?_ _
                      refine NoPanic.normal ?_
                      go_wp2_with fail
                      go_meet
                      exact ⟨g5, rfl, HG.out.1, HG.out.2, HGG.out⟩
                    exact AllReadyH.nil
                  exact AllReadyH.nil
                exact AllReadyH.nil
              exact AllReadyH.nil
            exact AllReadyH.nil
          exact AllReadyH.nil
        refine AllReadyH.cons (by simp only [List.getElem?_toArray, List.getElem?_cons_succ, List.getElem?_cons_zero]; first | done | rfl) (fun K hK => ?_) ?_
        · skip
          refine step_call rfl (num_u g b 0 _ (RdI.rdr (by repeat (first | exact HI.out | apply RdI.drew | apply RdI.drewN | apply RdI.alloc))) hl) (by go_simp) ?_
          rintro e v2 ⟨rfl, hr, hg⟩
          refine ⟨_, rfl, ?_⟩
          have HI' := Lib.hid (RdI.read (z' := ust b 1) (by repeat (first | exact HI.out | apply RdI.drew | apply RdI.drewN | apply RdI.alloc)) hr hg)
          have HO' := Lib.hid (Own.grownG (by repeat (first | exact HO.out | apply own_drew | apply own_drewN' | apply Own.alloc)) hg)
          have HU' := Lib.hid (UA.grown (by repeat (first | exact HU.out | apply UA.drew | apply UA.drewN | apply UA.alloc)) hg (fun e => by have := HGG.out; simp at e; omega))
          clear hr hg
          have HI := HI'
          have HO := HO'
          have HU := HU'
          clear HI' HO' HU'
          refine hK.out _ _ ?_ (fun hHeld => ?_)
          · (try dsimp only); (first | done | trivial)
          clear hK K
          try simp only [Act.put, List.setIfInBounds_toArray, List.set_cons_zero, List.set_cons_succ]
          refine wpAnyH_ready (rs := [2, 5]) (by kernel_rfl) (by simp) ?_
          refine AllReadyH.cons (by simp only [List.getElem?_toArray, List.getElem?_cons_succ, List.getElem?_cons_zero]; first | done | rfl) (fun K hK => ?_) ?_
          · skip
            refine step_conv_bs rfl (.tmp 13) rfl rfl (Own.rd (by repeat (first | exact HO.out | apply own_drew | apply own_drewN' | apply Own.alloc))) ?_
            refine hK.out _ _ ?_ (fun hHeld => ?_)
            · (try dsimp only); (first | done | trivial)
            clear hK K
            try simp only [Act.put, List.setIfInBounds_toArray, List.set_cons_zero, List.set_cons_succ]
            refine wpAnyH_ready (rs := [5]) (by kernel_rfl) (by simp) ?_
            refine AllReadyH.cons (by simp only [List.getElem?_toArray, List.getElem?_cons_succ, List.getElem?_cons_zero]; first | done | rfl) (fun K hK => ?_) ?_
            · skip
              refine step_call rfl (nearU_any (ust b 0).num _ (RS.num_bd _).1 (RS.num_bd _).2) (by go_simp) ?_
              rintro e _ ⟨rfl, rfl⟩
              refine ⟨_, rfl, ?_⟩
              refine hK.out _ _ ?_ (fun hHeld => ?_)
              · (try dsimp only); (first | done | trivial)
              clear hK K
              try simp only [Act.put, List.setIfInBounds_toArray, List.set_cons_zero, List.set_cons_succ]
              refine wpAnyH_ready (rs := [7]) (by kernel_rfl) (by simp) ?_
              refine AllReadyH.cons (by simp only [List.getElem?_toArray, List.getElem?_cons_succ, List.getElem?_cons_zero]; first | done | rfl) (fun K hK => ?_) ?_
              · skip
                refine step_call rfl (num_u g b 1 _ (RdI.rdr (by repeat (first | exact HI.out | apply RdI.drew | apply RdI.drewN | apply RdI.alloc))) hl) (by go_simp) ?_
                rintro e v2 ⟨rfl, hr, hg⟩
                refine ⟨_, rfl, ?_⟩
                have HI' := Lib.hid (RdI.read (z' := ust b 2) (by repeat (first | exact HI.out | apply RdI.drew | apply RdI.drewN | apply RdI.alloc)) hr hg)
                have HU' := Lib.hid (UA.grown (by repeat (first | exact HU.out | apply UA.drew | apply UA.drewN | apply UA.alloc)) hg (fun e => by have := HGG.out; simp at e; omega))
                clear hr hg
                have HI := HI'
                have HU := HU'
                clear HI' HU'
                refine hK.out _ _ ?_ (fun hHeld => ?_)
                · (try dsimp only); (first | done | trivial)
                clear hK K
                try simp only [Act.put, List.setIfInBounds_toArray, List.set_cons_zero, List.set_cons_succ]
                refine wpAnyH_ready (rs := [9]) (by kernel_rfl) (by simp) ?_
                refine AllReadyH.cons (by simp only [List.getElem?_toArray, List.getElem?_cons_succ, List.getElem?_cons_zero]; first | done | rfl) (fun K hK => ?_) ?_
                · skip
                  refine step_call rfl (num_u g b 2 _ (RdI.rdr (by repeat (first | exact HI.out | apply RdI.drew | apply RdI.drewN | apply RdI.alloc))) hl) (by go_simp) ?_
                  rintro e v2 ⟨rfl, hr, hg⟩
                  refine ⟨_, rfl, ?_⟩
                  have HI' := Lib.hid (RdI.read (z' := ust b 3) (by repeat (first | exact HI.out | apply RdI.drew | apply RdI.drewN | apply RdI.alloc)) hr hg)
                  have HU' := Lib.hid (UA.grown (by repeat (first | exact HU.out | apply UA.drew | apply UA.drewN | apply UA.alloc)) hg (fun e => by have := HGG.out; simp at e; omega))
                  clear hr hg
                  have HI := HI'
                  have HU := HU'
                  clear HI' HU'
                  refine hK.out _ _ ?_ (fun hHeld => ?_)
                  · (try dsimp only); (first | done | trivial)
                  clear hK K
                  try simp only [Act.put, List.setIfInBounds_toArray, List.set_cons_zero, List.set_cons_succ]
                  refine wpAnyH_ready (rs := [10]) (by kernel_rfl) (by simp) ?_
                  refine AllReadyH.cons (by simp only [List.getElem?_toArray, List.getElem?_cons_succ, List.getElem?_cons_zero]; first | done | rfl) (fun K hK => ?_) ?_
                  · skip
                    refine step_call rfl (nearU_any (ust b 2).num _ (RS.num_bd _).1 (RS.num_bd _).2) (by go_simp) ?_
                    rintro e _ ⟨rfl, rfl⟩
                    refine ⟨_, rfl, ?_⟩
                    refine hK.out _ _ ?_ (fun hHeld => ?_)
                    · (try dsimp only); (first | done | trivial)
                    clear hK K
                    try simp only [Act.put, List.setIfInBounds_toArray, List.set_cons_zero, List.set_cons_succ]
                    refine wpAnyH_take (i := 11) (v := ?_) (by simp only [List.getElem?_toArray, List.getElem?_cons_succ, List.getElem?_cons_zero]; first | done | rfl) (by kernel_rfl) (by kernel_rfl) (by kernel_rfl) (fun _ _ _ h => h) (Or.inl ⟨by rfl, ?hy⟩) (by assumption) ?_
                    case hy => (intro w hSw; (try dsimp only at hSw); go_simp; all_goals with_reducible rfl)
                    try simp only [Act.put, List.setIfInBounds_toArray, List.set_cons_zero, List.set_cons_succ]
                    refine wpAnyH_ready (rs := [13]) (by kernel_rfl) (by simp) ?_
                    refine AllReadyH.cons (by simp only [List.getElem?_toArray, List.getElem?_cons_succ, List.getElem?_cons_zero]; first | done | rfl) (fun K hK => ?_) ?_
                    · skip
                      refine step_store_up rfl (.tmp 5) (.tmp 23) rfl g5 (preU b) rfl rfl zeroU (by repeat (first | exact HU.out | apply UA.drew | apply UA.drewN | apply UA.alloc)) ?_
                      intro v2 hv2
                      have HG := Lib.hid (show RdI w v2 g (ust b 3) ∧ UA g5 (preU b) v2 from ⟨by rw [hv2]; exact RdI.setRow (by repeat (first | exact HI.out | apply RdI.drew | apply RdI.drewN | apply RdI.alloc)) HGG.out _, by rw [hv2]; exact ⟨setRow_heap _ _ _ _ _ _ (UA.row (by repeat (first | exact HU.out | apply UA.drew | apply UA.drewN | apply UA.alloc)))⟩⟩)
                      clear hv2
                      refine hK.out _ _ ?_ (fun hHeld => ?_)
                      · (try dsimp only); (first | done | trivial)
                      clear hK K
                      try simp only [Act.put, List.setIfInBounds_toArray, List.set_cons_zero, List.set_cons_succ]
                      refine wpAnyH_done (by kernel_rfl) ?_ _
                      refine NoPanic.normal ?_
                      go_wp2_with fail
                      go_meet
                      exact ⟨g5, rfl, HG.out.1, HG.out.2, HGG.out⟩
                    exact AllReadyH.nil
                  exact AllReadyH.nil
                exact AllReadyH.nil
              exact AllReadyH.nil
            exact AllReadyH.nil
          refine AllReadyH.cons (by simp only [List.getElem?_toArray, List.getElem?_cons_succ, List.getElem?_cons_zero]; first | done | rfl) (fun K hK => ?_) ?_
          · skip
            refine step_call rfl (nearU_any (ust b 0).num _ (RS.num_bd _).1 (RS.num_bd _).2) (by go_simp) ?_
            rintro e _ ⟨rfl, rfl⟩
            refine ⟨_, rfl, ?_⟩
            refine hK.out _ _ ?_ (fun hHeld => ?_)
            · (try dsimp only); (first | done | trivial)
            clear hK K
            try simp only [Act.put, List.setIfInBounds_toArray, List.set_cons_zero, List.set_cons_succ]
            refine wpAnyH_ready (rs := [2, 7]) (by kernel_rfl) (by simp) ?_
            refine AllReadyH.cons (by simp only [List.getElem?_toArray, List.getElem?_cons_succ, List.getElem?_cons_zero]; first | done | rfl) (fun K hK => ?_) ?_
            · skip
              refine step_conv_bs rfl (.tmp 13) rfl rfl (Own.rd (by repeat (first | exact HO.out | apply own_drew | apply own_drewN' | apply Own.alloc))) ?_
              refine hK.out _ _ ?_ (fun hHeld => ?_)
              · (try dsimp only); (first | done | trivial)
              clear hK K
              try simp only [Act.put, List.setIfInBounds_toArray, List.set_cons_zero, List.set_cons_succ]
              refine wpAnyH_ready (rs := [7]) (by kernel_rfl) (by simp) ?_
              refine AllReadyH.cons (by simp only [List.getElem?_toArray, List.getElem?_cons_succ, List.getElem?_cons_zero]; first | done | rfl) (fun K hK => ?_) ?_
              · skip
                refine step_call rfl (num_u g b 1 _ (RdI.rdr (by repeat (first | exact HI.out | apply RdI.drew | apply RdI.drewN | apply RdI.alloc))) hl) (by go_simp) ?_
                rintro e v2 ⟨rfl, hr, hg⟩
                refine ⟨_, rfl, ?_⟩
                have HI' := Lib.hid (RdI.read (z' := ust b 2) (by repeat (first | exact HI.out | apply RdI.drew | apply RdI.drewN | apply RdI.alloc)) hr hg)
                have HU' := Lib.hid (UA.grown (by repeat (first | exact HU.out | apply UA.drew | apply UA.drewN | apply UA.alloc)) hg (fun e => by have := HGG.out; simp at e; omega))
                clear hr hg
                have HI := HI'
                have HU := HU'
                clear HI' HU'
                refine hK.out _ _ ?_ (fun hHeld => ?_)
                · (try dsimp only); (first | done | trivial)
                clear hK K
                try simp only [Act.put, List.setIfInBounds_toArray, List.set_cons_zero, List.set_cons_succ]
                refine wpAnyH_ready (rs := [9]) (by kernel_rfl) (by simp) ?_
                refine AllReadyH.cons (by simp only [List.getElem?_toArray, List.getElem?_cons_succ, List.getElem?_cons_zero]; first | done | rfl) (fun K hK => ?_) ?_
                · skip
                  refine step_call rfl (num_u g b 2 _ (RdI.rdr (by repeat (first | exact HI.out | apply RdI.drew | apply RdI.drewN | apply RdI.alloc))) hl) (by go_simp) ?_
                  rintro e v2 ⟨rfl, hr, hg⟩
                  refine ⟨_, rfl, ?_⟩
                  have HI' := Lib.hid (RdI.read (z' := ust b 3) (by repeat (first | exact HI.out | apply RdI.drew | apply RdI.drewN | apply RdI.alloc)) hr hg)
                  have HU' := Lib.hid (UA.grown (by repeat (first | exact HU.out | apply UA.drew | apply UA.drewN | apply UA.alloc)) hg (fun e => by have := HGG.out; simp at e; omega))
                  clear hr hg
                  have HI := HI'
                  have HU := HU'
                  clear HI' HU'
                  refine hK.out _ _ ?_ (fun hHeld => ?_)
                  · (try dsimp only); (first | done | trivial)
                  clear hK K
                  try simp only [Act.put, List.setIfInBounds_toArray, List.set_cons_zero, List.set_cons_succ]
                  refine wpAnyH_ready (rs := [10]) (by kernel_rfl) (by simp) ?_
                  refine AllReadyH.cons (by simp only [List.getElem?_toArray, List.getElem?_cons_succ, List.getElem?_cons_zero]; first | done | rfl) (fun K hK => ?_) ?_
                  · skip
                    refine step_call rfl (nearU_any (ust b 2).num _ (RS.num_bd _).1 (RS.num_bd _).2) (by go_simp) ?_
                    rintro e _ ⟨rfl, rfl⟩
                    refine ⟨_, rfl, ?_⟩
                    refine hK.out _ _ ?_ (fun hHeld => ?_)
                    · (try dsimp only); (first | done | trivial)
                    clear hK K
                    try simp only [Act.put, List.setIfInBounds_toArray, List.set_cons_zero, List.set_cons_succ]
                    refine wpAnyH_take (i := 11) (v := ?_) (by simp only [List.getElem?_toArray, List.getElem?_cons_succ, List.getElem?_cons_zero]; first | done | rfl) (by kernel_rfl) (by kernel_rfl) (by kernel_rfl) (fun _ _ _ h => h) (Or.inl ⟨by rfl, ?hy⟩) (by assumption) ?_
                    case hy => (intro w hSw; (try dsimp only at hSw); go_simp; all_goals with_reducible rfl)
                    try simp only [Act.put, List.setIfInBounds_toArray, List.set_cons_zero, List.set_cons_succ]
                    refine wpAnyH_ready (rs := [13]) (by kernel_rfl) (by simp) ?_
                    refine AllReadyH.cons (by simp only [List.getElem?_toArray, List.getElem?_cons_succ, List.getElem?_cons_zero]; first | done | rfl) (fun K hK => ?_) ?_
                    · skip
                      refine step_store_up rfl (.tmp 5) (.tmp 23) rfl g5 (preU b) rfl rfl zeroU (by repeat (first | exact HU.out | apply UA.drew | apply UA.drewN | apply UA.alloc)) ?_
                      intro v2 hv2
                      have HG := Lib.hid (show RdI w v2 g (ust b 3) ∧ UA g5 (preU b) v2 from ⟨by rw [hv2]; exact RdI.setRow (by repeat (first | exact HI.out | apply RdI.drew | apply RdI.drewN | apply RdI.alloc)) HGG.out _, by rw [hv2]; exact ⟨setRow_heap _ _ _ _ _ _ (UA.row (by repeat (first | exact HU.out | apply UA.drew | apply UA.drewN | apply UA.alloc)))⟩⟩)
                      clear hv2
                      refine hK.out _ _ ?_ (fun hHeld => ?_)
                      · (try dsimp only); (first | done | trivial)
                      clear hK K
                      try simp only [Act.put, List.setIfInBounds_toArray, List.set_cons_zero, List.set_cons_succ]
                      refine wpAnyH_done (by kernel_rfl) ?_ _
                      refine NoPanic.normal ?_
                      go_wp2_with fail
                      go_meet
                      exact ⟨g5, rfl, HG.out.1, HG.out.2, HGG.out⟩
                    exact AllReadyH.nil
                  exact AllReadyH.nil
                exact AllReadyH.nil
              exact AllReadyH.nil
            refine AllReadyH.cons (by simp only [List.getElem?_toArray, List.getElem?_cons_succ, List.getElem?_cons_zero]; first | done | rfl) (fun K hK => ?_) ?_
            · skip
              refine step_call rfl (num_u g b 1 _ (RdI.rdr (by repeat (first | exact HI.out | apply RdI.drew | apply RdI.drewN | apply RdI.alloc))) hl) (by go_simp) ?_
              rintro e v2 ⟨rfl, hr, hg⟩
              refine ⟨_, rfl, ?_⟩
              have HI' := Lib.hid (RdI.read (z' := ust b 2) (by repeat (first | exact HI.out | apply RdI.drew | apply RdI.drewN | apply RdI.alloc)) hr hg)
              have HO' := Lib.hid (Own.grownG (by repeat (first | exact HO.out | apply own_drew | apply own_drewN' | apply Own.alloc)) hg)
              have HU' := Lib.hid (UA.grown (by repeat (first | exact HU.out | apply UA.drew | apply UA.drewN | apply UA.alloc)) hg (fun e => by have := HGG.out; simp at e; omega))
              clear hr hg
              have HI := HI'
              have HO := HO'
              have HU := HU'
              clear HI' HO' HU'
              refine hK.out _ _ ?_ (fun hHeld => ?_)
              · (try dsimp only); (first | done | trivial)
              clear hK K
              try simp only [Act.put, List.setIfInBounds_toArray, List.set_cons_zero, List.set_cons_succ]
              refine wpAnyH_ready (rs := [2, 9]) (by kernel_rfl) (by simp) ?_
              refine AllReadyH.cons (by simp only [List.getElem?_toArray, List.getElem?_cons_succ, List.getElem?_cons_zero]; first | done | rfl) (fun K hK => ?_) ?_
              · skip
                refine step_conv_bs rfl (.tmp 13) rfl rfl (Own.rd (by repeat (first | exact HO.out | apply own_drew | apply own_drewN' | apply Own.alloc))) ?_
                refine hK.out _ _ ?_ (fun hHeld => ?_)
                · (try dsimp only); (first | done | trivial)
                clear hK K
                try simp only [Act.put, List.setIfInBounds_toArray, List.set_cons_zero, List.set_cons_succ]
                refine wpAnyH_ready (rs := [9]) (by kernel_rfl) (by simp) ?_
                refine AllReadyH.cons (by simp only [List.getElem?_toArray, List.getElem?_cons_succ, List.getElem?_cons_zero]; first | done | rfl) (fun K hK => ?_) ?_
                · skip
                  refine step_call rfl (num_u g b 2 _ (RdI.rdr (by repeat (first | exact HI.out | apply RdI.drew | apply RdI.drewN | apply RdI.alloc))) hl) (by go_simp) ?_
                  rintro e v2 ⟨rfl, hr, hg⟩
                  refine ⟨_, rfl, ?_⟩
                  have HI' := Lib.hid (RdI.read (z' := ust b 3) (by repeat (first | exact HI.out | apply RdI.drew | apply RdI.drewN | apply RdI.alloc)) hr hg)
                  have HU' := Lib.hid (UA.grown (by repeat (first | exact HU.out | apply UA.drew | apply UA.drewN | apply UA.alloc)) hg (fun e => by have := HGG.out; simp at e; omega))
                  clear hr hg
                  have HI := HI'
                  have HU := HU'
                  clear HI' HU'
                  refine hK.out _ _ ?_ (fun hHeld => ?_)
                  · (try dsimp only); (first | done | trivial)
                  clear hK K
                  try simp only [Act.put, List.setIfInBounds_toArray, List.set_cons_zero, List.set_cons_succ]
                  refine wpAnyH_ready (rs := [10]) (by kernel_rfl) (by simp) ?_
                  refine AllReadyH.cons (by simp only [List.getElem?_toArray, List.getElem?_cons_succ, List.getElem?_cons_zero]; first | done | rfl) (fun K hK => ?_) ?_
                  · skip
                    refine step_call rfl (nearU_any (ust b 2).num _ (RS.num_bd _).1 (RS.num_bd _).2) (by go_simp) ?_
                    rintro e _ ⟨rfl, rfl⟩
                    refine ⟨_, rfl, ?_⟩
                    refine hK.out _ _ ?_ (fun hHeld => ?_)
                    · (try dsimp only); (first | done | trivial)
                    clear hK K
                    try simp only [Act.put, List.setIfInBounds_toArray, List.set_cons_zero, List.set_cons_succ]
                    refine wpAnyH_take (i := 11) (v := ?_) (by simp only [List.getElem?_toArray, List.getElem?_cons_succ, List.getElem?_cons_zero]; first | done | rfl) (by kernel_rfl) (by kernel_rfl) (by kernel_rfl) (fun _ _ _ h => h) (Or.inl ⟨by rfl, ?hy⟩) (by assumption) ?_
                    case hy => (intro w hSw; (try dsimp only at hSw); go_simp; all_goals with_reducible rfl)
                    try simp only [Act.put, List.setIfInBounds_toArray, List.set_cons_zero, List.set_cons_succ]
                    refine wpAnyH_ready (rs := [13]) (by kernel_rfl) (by simp) ?_
                    refine AllReadyH.cons (by simp only [List.getElem?_toArray, List.getElem?_cons_succ, List.getElem?_cons_zero]; first | done | rfl) (fun K hK => ?_) ?_
                    · skip
                      refine step_store_up rfl (.tmp 5) (.tmp 23) rfl g5 (preU b) rfl rfl zeroU (by repeat (first | exact HU.out | apply UA.drew | apply UA.drewN | apply UA.alloc)) ?_
                      intro v2 hv2
                      have HG := Lib.hid (show RdI w v2 g (ust b 3) ∧ UA g5 (preU b) v2 from ⟨by rw [hv2]; exact RdI.setRow (by repeat (first | exact HI.out | apply RdI.drew | apply RdI.drewN | apply RdI.alloc)) HGG.out _, by rw [hv2]; exact ⟨setRow_heap _ _ _ _ _ _ (UA.row (by repeat (first | exact HU.out | apply UA.drew | apply UA.drewN | apply UA.alloc)))⟩⟩)
                      clear hv2
                      refine hK.out _ _ ?_ (fun hHeld => ?_)
                      · (try dsimp only); (first | done | trivial)
                      clear hK K
                      try simp only [Act.put, List.setIfInBounds_toArray, List.set_cons_zero, List.set_cons_succ]
                      refine wpAnyH_done (by kernel_rfl) ?_ _
                      refine NoPanic.normal ?_
                      go_wp2_with fail
                      go_meet
                      exact ⟨g5, rfl, HG.out.1, HG.out.2, HGG.out⟩
                    exact AllReadyH.nil
                  exact AllReadyH.nil
                exact AllReadyH.nil
              refine AllReadyH.cons (by simp only [List.getElem?_toArray, List.getElem?_cons_succ, List.getElem?_cons_zero]; first | done | rfl) (fun K hK => ?_) ?_
              · skip
                refine step_call rfl (num_u g b 2 _ (RdI.rdr (by repeat (first | exact HI.out | apply RdI.drew | apply RdI.drewN | apply RdI.alloc))) hl) (by go_simp) ?_
                rintro e v2 ⟨rfl, hr, hg⟩
                refine ⟨_, rfl, ?_⟩
                have HI' := Lib.hid (RdI.read (z' := ust b 3) (by repeat (first | exact HI.out | apply RdI.drew | apply RdI.drewN | apply RdI.alloc)) hr hg)
                have HO' := Lib.hid (Own.grownG (by repeat (first | exact HO.out | apply own_drew | apply own_drewN' | apply Own.alloc)) hg)
                have HU' := Lib.hid (UA.grown (by repeat (first | exact HU.out | apply UA.drew | apply UA.drewN | apply UA.alloc)) hg (fun e => by have := HGG.out; simp at e; omega))
                clear hr hg
                have HI := HI'
                have HO := HO'
                have HU := HU'
                clear HI' HO' HU'
                refine hK.out _ _ ?_ (fun hHeld => ?_)
                · (try dsimp only); (first | done | trivial)
                clear hK K
                try simp only [Act.put, List.setIfInBounds_toArray, List.set_cons_zero, List.set_cons_succ]
                refine wpAnyH_ready (rs := [2, 10]) (by kernel_rfl) (by simp) ?_
                refine AllReadyH.cons (by simp only [List.getElem?_toArray, List.getElem?_cons_succ, List.getElem?_cons_zero]; first | done | rfl) (fun K hK => ?_) ?_
                · skip
                  refine step_conv_bs rfl (.tmp 13) rfl rfl (Own.rd (by repeat (first | exact HO.out | apply own_drew | apply own_drewN' | apply Own.alloc))) ?_
                  refine hK.out _ _ ?_ (fun hHeld => ?_)
                  · (try dsimp only); (first | done | trivial)
                  clear hK K
                  try simp only [Act.put, List.setIfInBounds_toArray, List.set_cons_zero, List.set_cons_succ]
                  refine wpAnyH_ready (rs := [10]) (by kernel_rfl) (by simp) ?_
                  refine AllReadyH.cons (by simp only [List.getElem?_toArray, List.getElem?_cons_succ, List.getElem?_cons_zero]; first | done | rfl) (fun K hK => ?_) ?_
                  · skip
                    refine step_call rfl (nearU_any (ust b 2).num _ (RS.num_bd _).1 (RS.num_bd _).2) (by go_simp) ?_
                    rintro e _ ⟨rfl, rfl⟩
                    refine ⟨_, rfl, ?_⟩
                    refine hK.out _ _ ?_ (fun hHeld => ?_)
                    · (try dsimp only); (first | done | trivial)
                    clear hK K
                    try simp only [Act.put, List.setIfInBounds_toArray, List.set_cons_zero, List.set_cons_succ]
                    refine wpAnyH_take (i := 11) (v := ?_) (by simp only [List.getElem?_toArray, List.getElem?_cons_succ, List.getElem?_cons_zero]; first | done | rfl) (by kernel_rfl) (by kernel_rfl) (by kernel_rfl) (fun _ _ _ h => h) (Or.inl ⟨by rfl, ?hy⟩) (by assumption) ?_
                    case hy => (intro w hSw; (try dsimp only at hSw); go_simp; all_goals with_reducible rfl)
                    try simp only [Act.put, List.setIfInBounds_toArray, List.set_cons_zero, List.set_cons_succ]
                    refine wpAnyH_ready (rs := [13]) (by kernel_rfl) (by simp) ?_
                    refine AllReadyH.cons (by simp only [List.getElem?_toArray, List.getElem?_cons_succ, List.getElem?_cons_zero]; first | done | rfl) (fun K hK => ?_) ?_
                    · skip
                      refine step_store_up rfl (.tmp 5) (.tmp 23) rfl g5 (preU b) rfl rfl zeroU (by repeat (first | exact HU.out | apply UA.drew | apply UA.drewN | apply UA.alloc)) ?_
                      intro v2 hv2
                      have HG := Lib.hid (show RdI w v2 g (ust b 3) ∧ UA g5 (preU b) v2 from ⟨by rw [hv2]; exact RdI.setRow (by repeat (first | exact HI.out | apply RdI.drew | apply RdI.drewN | apply RdI.alloc)) HGG.out _, by rw [hv2]; exact ⟨setRow_heap _ _ _ _ _ _ (UA.row (by repeat (first | exact HU.out | apply UA.drew | apply UA.drewN | apply UA.alloc)))⟩⟩)
                      clear hv2
                      refine hK.out _ _ ?_ (fun hHeld => ?_)
                      · (try dsimp only); (first | done | trivial)
                      clear hK K
                      try simp only [Act.put, List.setIfInBounds_toArray, List.set_cons_zero, List.set_cons_succ]
                      refine wpAnyH_done (by kernel_rfl) ?_ _
                      refine NoPanic.normal ?_
                      go_wp2_with fail
                      go_meet
                      exact ⟨g5, rfl, HG.out.1, HG.out.2, HGG.out⟩
                    exact AllReadyH.nil
                  exact AllReadyH.nil
                refine AllReadyH.cons (by simp only [List.getElem?_toArray, List.getElem?_cons_succ, List.getElem?_cons_zero]; first | done | rfl) (fun K hK => ?_) ?_
                · skip
                  refine step_call rfl (nearU_any (ust b 2).num _ (RS.num_bd _).1 (RS.num_bd _).2) (by go_simp) ?_
                  rintro e _ ⟨rfl, rfl⟩
                  refine ⟨_, rfl, ?_⟩
                  refine hK.out _ _ ?_ (fun hHeld => ?_)
                  · (try dsimp only); (first | done | trivial)
                  clear hK K
                  try simp only [Act.put, List.setIfInBounds_toArray, List.set_cons_zero, List.set_cons_succ]
                  refine wpAnyH_ready (rs := [2]) (by kernel_rfl) (by simp) ?_
                  refine AllReadyH.cons (by simp only [List.getElem?_toArray, List.getElem?_cons_succ, List.getElem?_cons_zero]; first | done | rfl) (fun K hK => ?_) ?_
                  · skip
                    refine step_conv_bs rfl (.tmp 13) rfl rfl (Own.rd (by repeat (first | exact HO.out | apply own_drew | apply own_drewN' | apply Own.alloc))) ?_
                    refine hK.out _ _ ?_ (fun hHeld => ?_)
                    · (try dsimp only); (first | done | trivial)
                    clear hK K
                    try simp only [Act.put, List.setIfInBounds_toArray, List.set_cons_zero, List.set_cons_succ]
                    refine wpAnyH_take (i := 11) (v := ?_) (by simp only [List.getElem?_toArray, List.getElem?_cons_succ, List.getElem?_cons_zero]; first | done | rfl) (by kernel_rfl) (by kernel_rfl) (by kernel_rfl) (fun _ _ _ h => h) (Or.inl ⟨by rfl, ?hy⟩) (by assumption) ?_
                    case hy => (intro w hSw; (try dsimp only at hSw); go_simp; all_goals with_reducible rfl)
                    try simp only [Act.put, List.setIfInBounds_toArray, List.set_cons_zero, List.set_cons_succ]
                    refine wpAnyH_ready (rs := [13]) (by kernel_rfl) (by simp) ?_
                    refine AllReadyH.cons (by simp only [List.getElem?_toArray, List.getElem?_cons_succ, List.getElem?_cons_zero]; first | done | rfl) (fun K hK => ?_) ?_
                    · skip
                      refine step_store_up rfl (.tmp 5) (.tmp 23) rfl g5 (preU b) rfl rfl zeroU (by repeat (first | exact HU.out | apply UA.drew | apply UA.drewN | apply UA.alloc)) ?_
                      intro v2 hv2
                      have HG := Lib.hid (show RdI w v2 g (ust b 3) ∧ UA g5 (preU b) v2 from ⟨by rw [hv2]; exact RdI.setRow (by repeat (first | exact HI.out | apply RdI.drew | apply RdI.drewN | apply RdI.alloc)) HGG.out _, by rw [hv2]; exact ⟨setRow_heap _ _ _ _ _ _ (UA.row (by repeat (first | exact HU.out | apply UA.drew | apply UA.drewN | apply UA.alloc)))⟩⟩)
                      clear hv2
                      refine hK.out _ _ ?_ (fun hHeld => ?_)
                      · (try dsimp only); (first | done | trivial)
                      clear hK K
                      try simp only [Act.put, List.setIfInBounds_toArray, List.set_cons_zero, List.set_cons_succ]
                      refine wpAnyH_done (by kernel_rfl) ?_ _
                      refine NoPanic.normal ?_
                      go_wp2_with fail
                      go_meet
                      exact ⟨g5, rfl, HG.out.1, HG.out.2, HGG.out⟩
                    exact AllReadyH.nil
                  exact AllReadyH.nil
                exact AllReadyH.nil
              exact AllReadyH.nil
            exact AllReadyH.nil
          exact AllReadyH.nil
        exact AllReadyH.nil
      exact AllReadyH.nil
    exact AllReadyH.nil
  case rest =>
    obtain ⟨g5, rfl, hi, hu, hgg⟩ := hcut
    clear HI
    have HI := Lib.hid hi
    have HU := Lib.hid hu
    have HGG := Lib.hid hgg
    clear hi hu hgg
    go_wp2_with fail
    refine (num_u g b 3 _ HI.out.rdr hl).mono ?_
    rintro e w3 ⟨rfl, hr, hg⟩
    have HI3 := Lib.hid (HI.out.read (z' := ust b 4) hr hg)
    have HU3 := Lib.hid (HU.out.grown hg (fun e => by have := HGG.out; simp at e; omega))
    clear hr hg
    go_wp2_with fail
    refine (num_u g b 4 _ HI3.out.rdr hl).mono ?_
    rintro e w4 ⟨rfl, hr, hg⟩
    have HI4 := Lib.hid (HI3.out.read (z' := ust b 5) hr hg)
    have HU4 := Lib.hid (HU3.out.grown hg (fun e => by have := HGG.out; simp at e; omega))
    clear hr hg
    have c4 := HU4.out.c4
    have c5 := HU4.out.c5
    have f4 := frozen_of_row _ _ 4 _ _ HU4.out.row
    have f5 := frozen_of_row _ _ 5 _ _ HU4.out.row
    go_upto_region 6 with fail
    refine wp_world (fun Z => RdI w Z g (ust b 5) ∧ UA g5 (parseU nearV b) Z) ⟨(HI4.out.setCell HGG.out _).setCell HGG.out _, by have h := HU4.out.setSig (ust b 3).num (ust b 4).num; rw [preU_sig] at h; exact h⟩ ?_
    rintro Z ⟨hI, hG⟩
    have HI5 := Lib.hid hI
    have HU5 := Lib.hid hG
    clear hI hG c4 c5 f4 f5
    generalize parseU nearV b = P at *
    go_wp2_with fail
    refine (err_any g _ _ _ HI5.out.rdr).mono ?_
    rintro e _ ⟨rfl, rfl⟩
    by_cases hx : (ust b 5).x = 0
    case neg =>
      have hrd := HRD.out
      rw [if_neg hx] at hrd
      have HEE := Lib.hid hrd
      clear hrd
      have hx1 : ((ust b 5).x != 0) = true := by simpa using hx
      go_upto_region 7 with fail
      go_wp2_with (refine wpList_built rfl 30 #[] rfl [] (by simp) zeroU.cells.toArray built_up0 ?_)
      refine (err_any g _ _ _ HI5.out.rdr).mono ?_
      rintro e _ ⟨rfl, rfl⟩
      go_wp2_with (refine wpList_store_row rfl 30 (.tmp 2) (.tmp 34) rfl w.heap.size zeroU.cells.toArray rfl rfl 30 _ HI5.out.res.row (up_size _) rfl (all_oneCell_toArray zeroU.cells_one) ?_)
      exact bodyPost_ret (v := .tuple #[upV zeroU, .int .i64 (ust b 5).x]) (results_row_tmp (p := 2) (u := 3) rfl _ _ w.heap.size zeroU.cells.toArray rfl (up_loads ⟨setRow_heap _ _ _ _ _ _ HI5.out.res.row⟩)) rfl ⟨by rw [HEE.out], below_setRow HI5.out.bel (Nat.le_refl _)⟩
    have hx1 : ((ust b 5).x != 0) = false := by rw [hx]; rfl
    have hrd := HRD.out
    rw [if_pos hx] at hrd
    clear hx
    go_wp2_with fail
    refine (left_any g _ _ _ HI5.out.rdr).mono ?_
    rintro e _ ⟨rfl, rfl⟩
    by_cases hy : 0 < (ust b 5).l.length
    · rw [if_pos hy] at hrd
      have HEE := Lib.hid hrd
      clear hrd
      have hy' : (0 : Int) < ((ust b 5).l.length : Int) := by omega
      go_upto_region 9 with fail
      refine wp_region_lit ?_
      refine wpList_built rfl 30 #[] rfl [] (by simp) zeroU.cells.toArray built_up0 ?_
      refine wpList_store_row rfl 30 (.tmp 2) (.tmp 41) rfl w.heap.size zeroU.cells.toArray rfl rfl 30 _ HI5.out.res.row (up_size _) rfl (all_oneCell_toArray zeroU.cells_one) ?_
      go_wp2_with fail
      exact bodyPost_ret (v := .tuple #[upV zeroU, .int .i64 20]) (results_row_tmp (p := 2) (u := 3) rfl _ _ w.heap.size zeroU.cells.toArray rfl (up_loads ⟨setRow_heap _ _ _ _ _ _ HI5.out.res.row⟩)) rfl ⟨by rw [HEE.out], below_setRow HI5.out.bel (Nat.le_refl _)⟩
    rw [if_neg hy] at hrd
    have hy' : ¬ ((0 : Int) < ((ust b 5).l.length : Int)) := by omega
    have HRD2 := Lib.hid hrd
    clear hrd HRD hy
    go_upto_region 10 with fail
    refine wp_region_lit ?_
    refine wpList_load_row rfl 30 (.tmp 5) rfl g5 rfl 30 _ (0, 0) _ HU5.out.row Try.underlying30 rfl (up_size _) ?_
    go_wp2_with fail
    refine (rightU_any P _).mono ?_
    rintro e w9 ⟨rfl, hb9⟩
    have HI9 := Lib.hid (HI5.out.below hb9)
    have HU9 := Lib.hid (HU5.out.below hb9)
    clear hb9
    cases hr : rightU P with
    | false =>
      have he : readU b = (zeroU, 23) := by rw [HRD2.out, hr]; rfl
      have HEE := Lib.hid he
      clear he hr
      go_upto_region 11 with fail
      refine wp_region_lit ?_
      refine wpList_built rfl 30 #[] rfl [] (by simp) zeroU.cells.toArray built_up0 ?_
      refine wpList_store_row rfl 30 (.tmp 2) (.tmp 46) rfl w.heap.size zeroU.cells.toArray rfl rfl 30 _ HI9.out.res.row (up_size _) rfl (all_oneCell_toArray zeroU.cells_one) ?_
      go_wp2_with fail
      exact bodyPost_ret (v := .tuple #[upV zeroU, .int .i64 23]) (results_row_tmp (p := 2) (u := 3) rfl _ _ w.heap.size zeroU.cells.toArray rfl (up_loads ⟨setRow_heap _ _ _ _ _ _ HI9.out.res.row⟩)) rfl ⟨by rw [HEE.out], below_setRow HI9.out.bel (Nat.le_refl _)⟩
    | true =>
      have he : readU b = (P, 0) := by rw [HRD2.out, hr]; rfl
      have HEE := Lib.hid he
      clear he hr
      go_upto_region 12 with fail
      refine wp_region_lit ?_
      refine wpList_load_row rfl 30 (.tmp 5) rfl g5 rfl 30 _ (0, 0) _ HU9.out.row Try.underlying30 rfl (up_size _) ?_
      refine wpList_store_row rfl 30 (.tmp 2) (.tmp 47) rfl w.heap.size P.cells.toArray rfl rfl 30 _ HI9.out.res.row (up_size _) rfl (all_oneCell_toArray P.cells_one) ?_
      go_wp2_with fail
      exact bodyPost_ret (v := .tuple #[upV P, .int .i64 0]) (results_row_tmp (p := 2) (u := 3) rfl _ _ w.heap.size P.cells.toArray rfl (up_loads ⟨setRow_heap _ _ _ _ _ _ HI9.out.res.row⟩)) rfl ⟨by rw [HEE.out], below_setRow HI9.out.bel (Nat.le_refl _)⟩
end Go.Proofs.Ytjfkkcoapeipbaa
