/-
  Requests: Put, the program's and the reference's; the bytes of any request.
-/
import Derived.Test.YtjfkkcoapeipbaaUpM
namespace Go.Proofs.Ytjfkkcoapeipbaa
set_option linter.unusedVariables false
set_option linter.unusedSimpArgs false
open Go.RowKit
attribute [local irreducible] checkF putF

/-- What Put tells. -/
def GivesPutU (w : World) (u : Up) (e : Ending) (w' : World) : Prop := ∃ v, e = .returned (.tuple #[v, .int .i64 (putUErr u)]) ∧ Rd w' v (putUOut u) ∧ Below w.heap.size w w'

set_option maxRecDepth 100000 in
set_option maxHeartbeats 3200000 in
theorem putU_any (u : Up) (w : World) (ok : u.ok) : Calls Try.prog 14 #[upV u] w (GivesPutU w u) := by
  show Calls _ _ #[.agg u.cells.toArray] w _
  have OK := Lib.hid ok
  have HLN := Lib.hid (show u.nm.length ≤ 1099511627776 by have := ok.nm; omega)
  clear ok
  unfold GivesPutU putUErr putUOut
  cases hr : rightU u with
  | false =>
    have HR := Lib.hid hr
    clear hr
    simp only [Bool.false_eq_true, if_false]
    go_enter Try.func14, Try.ntmps14
    go_upto_region 1 with fail
    refine wp_world (fun W => UA w.heap.size u W ∧ Below w.heap.size w W) ⟨UA.new _ _, bl_alloc (Below.refl _ _) _⟩ ?_
    rintro W ⟨hA, hB⟩
    have HH := Lib.hid hA
    have HB := Lib.hid hB
    clear hA hB
    go_wp2_with (refine wpList_load_row rfl 30 (.tmp 1) rfl w.heap.size rfl 30 _ (0, 0) _ HH.out.row Try.underlying30 rfl (up_size _) ?_)
    refine (rightU_any u _).mono ?_
    rintro e v2 ⟨rfl, hb2⟩
    rw [HR.out]
    have HH2 := Lib.hid (HH.out.below hb2)
    have HB2 := Lib.hid (bl_bl HB.out hb2)
    clear hb2 HH HB
    have HH := HH2
    have HB := HB2
    clear HH2 HB2
    go_wp2_with fail
    go_ret2
    exact ⟨_, rfl, Rd.nil _, HB.out⟩
  | true =>
    have HR := Lib.hid hr
    have HF := Lib.hid (show [lumpB u.nm, numB (u64 u.ver), numB u.key, numB (u64 u.cls), putF u.r u.s].flatten = bytesU u by simp [bytesU, fieldsE])
    clear hr
    simp only [if_true]
    go_enter Try.func14, Try.ntmps14
    go_upto_region 1 with fail
    refine wp_world (fun W => UA w.heap.size u W ∧ Below w.heap.size w W) ⟨UA.new _ _, bl_alloc (Below.refl _ _) _⟩ ?_
    rintro W ⟨hA, hB⟩
    have HH := Lib.hid hA
    have HB := Lib.hid hB
    clear hA hB
    go_wp2_with (refine wpList_load_row rfl 30 (.tmp 1) rfl w.heap.size rfl 30 _ (0, 0) _ HH.out.row Try.underlying30 rfl (up_size _) ?_)
    refine (rightU_any u _).mono ?_
    rintro e v2 ⟨rfl, hb2⟩
    rw [HR.out]
    have HH2 := Lib.hid (HH.out.below hb2)
    have HB2 := Lib.hid (bl_bl HB.out hb2)
    clear hb2 HH HB
    have HH := HH2
    have HB := HB2
    clear HH2 HB2
    go_upto_region 3 with fail
    obtain ⟨W2, rfl⟩ : ∃ W2, W2 = v2 := ⟨_, rfl⟩
    refine wp_region_noPanic ?_
    refine wp_region_held_drew (S := (fun w' => UA w.heap.size u w')) (by kernel_rfl) ?_ (fun hHeld => ?_)
    · (try dsimp only); (repeat (first | exact HH.out | apply UA.drew | apply UA.drewN | apply UA.alloc))
    refine wpAnyH_take (i := 0) (v := ?_) (by simp only [List.getElem?_toArray, List.getElem?_cons_succ, List.getElem?_cons_zero]; first | done | rfl) (by kernel_rfl) (by kernel_rfl) (by kernel_rfl) (fun _ _ _ h => h) (Or.inl ⟨by rfl, ?hy⟩) (by assumption) ?_
    case hy => (intro w hSw; (try dsimp only at hSw); have c0 := hSw.c0; have c1 := hSw.c1; have c2 := hSw.c2; have c3 := hSw.c3; have c4 := hSw.c4; have c5 := hSw.c5; go_simp; all_goals with_reducible rfl)
    try simp only [Act.put, List.setIfInBounds_toArray, List.set_cons_zero, List.set_cons_succ]
    refine wpAnyH_take (i := 1) (v := ?_) (by simp only [List.getElem?_toArray, List.getElem?_cons_succ, List.getElem?_cons_zero]; first | done | rfl) (by kernel_rfl) (by kernel_rfl) (by kernel_rfl) (fun _ _ _ h => h) (Or.inl ⟨by rfl, ?hy⟩) (by assumption) ?_
    case hy => (intro w hSw; (try dsimp only at hSw); have c0 := hSw.c0; have c1 := hSw.c1; have c2 := hSw.c2; have c3 := hSw.c3; have c4 := hSw.c4; have c5 := hSw.c5; go_simp; all_goals with_reducible rfl)
    try simp only [Act.put, List.setIfInBounds_toArray, List.set_cons_zero, List.set_cons_succ]
    refine wpAnyH_take (i := 4) (v := ?_) (by simp only [List.getElem?_toArray, List.getElem?_cons_succ, List.getElem?_cons_zero]; first | done | rfl) (by kernel_rfl) (by kernel_rfl) (by kernel_rfl) (fun _ _ _ h => h) (Or.inl ⟨by rfl, ?hy⟩) (by assumption) ?_
    case hy => (intro w hSw; (try dsimp only at hSw); have c0 := hSw.c0; have c1 := hSw.c1; have c2 := hSw.c2; have c3 := hSw.c3; have c4 := hSw.c4; have c5 := hSw.c5; go_simp; all_goals with_reducible rfl)
    try simp only [Act.put, List.setIfInBounds_toArray, List.set_cons_zero, List.set_cons_succ]
    refine wpAnyH_take (i := 5) (v := ?_) (by simp only [List.getElem?_toArray, List.getElem?_cons_succ, List.getElem?_cons_zero]; first | done | rfl) (by kernel_rfl) (by kernel_rfl) (by kernel_rfl) (fun _ _ _ h => h) (Or.inl ⟨by rfl, ?hy⟩) (by assumption) ?_
    case hy => (intro w hSw; (try dsimp only at hSw); have c0 := hSw.c0; have c1 := hSw.c1; have c2 := hSw.c2; have c3 := hSw.c3; have c4 := hSw.c4; have c5 := hSw.c5; go_simp; all_goals with_reducible rfl)
    try simp only [Act.put, List.setIfInBounds_toArray, List.set_cons_zero, List.set_cons_succ]
    refine wpAnyH_take (i := 6) (v := ?_) (by simp only [List.getElem?_toArray, List.getElem?_cons_succ, List.getElem?_cons_zero]; first | done | rfl) (by kernel_rfl) (by kernel_rfl) (by kernel_rfl) (fun _ _ _ h => h) (Or.inl ⟨by rfl, ?hy⟩) (by assumption) ?_
    case hy => (intro w hSw; (try dsimp only at hSw); have c0 := hSw.c0; have c1 := hSw.c1; have c2 := hSw.c2; have c3 := hSw.c3; have c4 := hSw.c4; have c5 := hSw.c5; go_simp; all_goals with_reducible rfl)
    try simp only [Act.put, List.setIfInBounds_toArray, List.set_cons_zero, List.set_cons_succ]
    refine wpAnyH_take (i := 8) (v := ?_) (by simp only [List.getElem?_toArray, List.getElem?_cons_succ, List.getElem?_cons_zero]; first | done | rfl) (by kernel_rfl) (by kernel_rfl) (by kernel_rfl) (fun _ _ _ h => h) (Or.inl ⟨by rfl, ?hy⟩) (by assumption) ?_
    case hy => (intro w hSw; (try dsimp only at hSw); have c0 := hSw.c0; have c1 := hSw.c1; have c2 := hSw.c2; have c3 := hSw.c3; have c4 := hSw.c4; have c5 := hSw.c5; go_simp; all_goals with_reducible rfl)
    try simp only [Act.put, List.setIfInBounds_toArray, List.set_cons_zero, List.set_cons_succ]
    refine wpAnyH_take (i := 9) (v := ?_) (by simp only [List.getElem?_toArray, List.getElem?_cons_succ, List.getElem?_cons_zero]; first | done | rfl) (by kernel_rfl) (by kernel_rfl) (by kernel_rfl) (fun _ _ _ h => h) (Or.inl ⟨by rfl, ?hy⟩) (by assumption) ?_
    case hy => (intro w hSw; (try dsimp only at hSw); have c0 := hSw.c0; have c1 := hSw.c1; have c2 := hSw.c2; have c3 := hSw.c3; have c4 := hSw.c4; have c5 := hSw.c5; go_simp; all_goals with_reducible rfl)
    try simp only [Act.put, List.setIfInBounds_toArray, List.set_cons_zero, List.set_cons_succ]
    refine wpAnyH_take (i := 11) (v := ?_) (by simp only [List.getElem?_toArray, List.getElem?_cons_succ, List.getElem?_cons_zero]; first | done | rfl) (by kernel_rfl) (by kernel_rfl) (by kernel_rfl) (fun _ _ _ h => h) (Or.inl ⟨by rfl, ?hy⟩) (by assumption) ?_
    case hy => (intro w hSw; (try dsimp only at hSw); have c0 := hSw.c0; have c1 := hSw.c1; have c2 := hSw.c2; have c3 := hSw.c3; have c4 := hSw.c4; have c5 := hSw.c5; go_simp; all_goals with_reducible rfl)
    try simp only [Act.put, List.setIfInBounds_toArray, List.set_cons_zero, List.set_cons_succ]
    refine wpAnyH_take (i := 12) (v := ?_) (by simp only [List.getElem?_toArray, List.getElem?_cons_succ, List.getElem?_cons_zero]; first | done | rfl) (by kernel_rfl) (by kernel_rfl) (by kernel_rfl) (fun _ _ _ h => h) (Or.inl ⟨by rfl, ?hy⟩) (by assumption) ?_
    case hy => (intro w hSw; (try dsimp only at hSw); have c0 := hSw.c0; have c1 := hSw.c1; have c2 := hSw.c2; have c3 := hSw.c3; have c4 := hSw.c4; have c5 := hSw.c5; go_simp; all_goals with_reducible rfl)
    try simp only [Act.put, List.setIfInBounds_toArray, List.set_cons_zero, List.set_cons_succ]
    refine wpAnyH_take (i := 13) (v := ?_) (by simp only [List.getElem?_toArray, List.getElem?_cons_succ, List.getElem?_cons_zero]; first | done | rfl) (by kernel_rfl) (by kernel_rfl) (by kernel_rfl) (fun _ _ _ h => h) (Or.inl ⟨by rfl, ?hy⟩) (by assumption) ?_
    case hy => (intro w hSw; (try dsimp only at hSw); have c0 := hSw.c0; have c1 := hSw.c1; have c2 := hSw.c2; have c3 := hSw.c3; have c4 := hSw.c4; have c5 := hSw.c5; go_simp; all_goals with_reducible rfl)
    try simp only [Act.put, List.setIfInBounds_toArray, List.set_cons_zero, List.set_cons_succ]
    refine wpAnyH_take (i := 15) (v := ?_) (by simp only [List.getElem?_toArray, List.getElem?_cons_succ, List.getElem?_cons_zero]; first | done | rfl) (by kernel_rfl) (by kernel_rfl) (by kernel_rfl) (fun _ _ _ h => h) (Or.inl ⟨by rfl, ?hy⟩) (by assumption) ?_
    case hy => (intro w hSw; (try dsimp only at hSw); have c0 := hSw.c0; have c1 := hSw.c1; have c2 := hSw.c2; have c3 := hSw.c3; have c4 := hSw.c4; have c5 := hSw.c5; go_simp; all_goals with_reducible rfl)
    try simp only [Act.put, List.setIfInBounds_toArray, List.set_cons_zero, List.set_cons_succ]
    refine wpAnyH_take (i := 16) (v := ?_) (by simp only [List.getElem?_toArray, List.getElem?_cons_succ, List.getElem?_cons_zero]; first | done | rfl) (by kernel_rfl) (by kernel_rfl) (by kernel_rfl) (fun _ _ _ h => h) (Or.inl ⟨by rfl, ?hy⟩) (by assumption) ?_
    case hy => (intro w hSw; (try dsimp only at hSw); have c0 := hSw.c0; have c1 := hSw.c1; have c2 := hSw.c2; have c3 := hSw.c3; have c4 := hSw.c4; have c5 := hSw.c5; go_simp; all_goals with_reducible rfl)
    try simp only [Act.put, List.setIfInBounds_toArray, List.set_cons_zero, List.set_cons_succ]
    refine wpAnyH_ready (rs := [2]) (by kernel_rfl) (by simp) ?_
    refine AllReadyH.cons (by simp only [List.getElem?_toArray, List.getElem?_cons_succ, List.getElem?_cons_zero]; first | done | rfl) (fun K hK => ?_) ?_
    · skip
      refine step_conv_sb rfl (.tmp 8) rfl rfl HLN.out ?_
      intro u2 v2 hu2 hb2
      obtain ⟨b2, c2, rfl⟩ := hu2.shape
      have HC := Lib.hid hu2
      clear hu2
      have HH' := Lib.hid (UA.below (by repeat (first | exact HH.out | apply UA.drew | apply UA.drewN | apply UA.alloc)) hb2)
      have HB' := Lib.hid (bl_bl (by repeat (first | exact HB.out | apply bl_drew | apply bl_drewN | apply bl_alloc)) hb2)
      clear hb2
      have HH := HH'
      have HB := HB'
      clear HH' HB'
      refine hK.out _ _ ?_ (fun hHeld => ?_)
      · (try dsimp only); (repeat (first | exact HH.out | apply UA.drew | apply UA.drewN | apply UA.alloc))
      clear hK K
      try simp only [Act.put, List.setIfInBounds_toArray, List.set_cons_zero, List.set_cons_succ]
      refine wpAnyH_ready (rs := [3]) (by kernel_rfl) (by simp) ?_
      refine AllReadyH.cons (by simp only [List.getElem?_toArray, List.getElem?_cons_succ, List.getElem?_cons_zero]; first | done | rfl) (fun K hK => ?_) ?_
      · go_simp
        go_at_call 42
        refine (lump_any _ u.nm _ (by repeat (first | exact HC.out | apply rd_drew | apply rd_drewN | apply rd_alloc)) (by have := OK.out.nm; omega)).mono ?_
        rintro e v2 ⟨u2, rfl, hu2, hb2⟩
        obtain ⟨b2, c2, rfl⟩ := hu2.rd.shape
        have HU1 := Lib.hid hu2.rd
        clear hu2
        have HH' := Lib.hid (UA.below (by repeat (first | exact HH.out | apply UA.drew | apply UA.drewN | apply UA.alloc)) hb2)
        have HB' := Lib.hid (bl_bl (by repeat (first | exact HB.out | apply bl_drew | apply bl_drewN | apply bl_alloc)) hb2)
        have HC' := Lib.hid (Rd.below (by repeat (first | exact HC.out | apply rd_drew | apply rd_drewN | apply rd_alloc)) hb2)
        clear hb2
        have HH := HH'
        have HB := HB'
        have HC := HC'
        clear HH' HB' HC'
        refine hK.out _ _ ?_ (fun hHeld => ?_)
        · (try dsimp only); (repeat (first | exact HH.out | apply UA.drew | apply UA.drewN | apply UA.alloc))
        clear hK K
        try simp only [Act.put, List.setIfInBounds_toArray, List.set_cons_zero, List.set_cons_succ]
        refine wpAnyH_ready (rs := [7]) (by kernel_rfl) (by simp) ?_
        refine AllReadyH.cons (by simp only [List.getElem?_toArray, List.getElem?_cons_succ, List.getElem?_cons_zero]; first | done | rfl) (fun K hK => ?_) ?_
        · go_simp
          go_at_call 43
          refine (num_own (u64 u.ver) _ (u64_bd _).1 (u64_bd _).2).mono ?_
          rintro e v2 ⟨u2, rfl, hu2, hb2⟩
          obtain ⟨b2, c2, rfl⟩ := hu2.rd.shape
          have HU2 := Lib.hid hu2.rd
          clear hu2
          have HH' := Lib.hid (UA.below (by repeat (first | exact HH.out | apply UA.drew | apply UA.drewN | apply UA.alloc)) hb2)
          have HB' := Lib.hid (bl_bl (by repeat (first | exact HB.out | apply bl_drew | apply bl_drewN | apply bl_alloc)) hb2)
          have HC' := Lib.hid (Rd.below (by repeat (first | exact HC.out | apply rd_drew | apply rd_drewN | apply rd_alloc)) hb2)
          have HU1' := Lib.hid (Rd.below (by repeat (first | exact HU1.out | apply rd_drew | apply rd_drewN | apply rd_alloc)) hb2)
          clear hb2
          have HH := HH'
          have HB := HB'
          have HC := HC'
          have HU1 := HU1'
          clear HH' HB' HC' HU1'
          refine hK.out _ _ ?_ (fun hHeld => ?_)
          · (try dsimp only); (repeat (first | exact HH.out | apply UA.drew | apply UA.drewN | apply UA.alloc))
          clear hK K
          try simp only [Act.put, List.setIfInBounds_toArray, List.set_cons_zero, List.set_cons_succ]
          refine wpAnyH_ready (rs := [10]) (by kernel_rfl) (by simp) ?_
          refine AllReadyH.cons (by simp only [List.getElem?_toArray, List.getElem?_cons_succ, List.getElem?_cons_zero]; first | done | rfl) (fun K hK => ?_) ?_
          · go_simp
            go_at_call 43
            refine (num_own u.key _ OK.out.key.1 OK.out.key.2).mono ?_
            rintro e v2 ⟨u2, rfl, hu2, hb2⟩
            obtain ⟨b2, c2, rfl⟩ := hu2.rd.shape
            have HU3 := Lib.hid hu2.rd
            clear hu2
            have HH' := Lib.hid (UA.below (by repeat (first | exact HH.out | apply UA.drew | apply UA.drewN | apply UA.alloc)) hb2)
            have HB' := Lib.hid (bl_bl (by repeat (first | exact HB.out | apply bl_drew | apply bl_drewN | apply bl_alloc)) hb2)
            have HC' := Lib.hid (Rd.below (by repeat (first | exact HC.out | apply rd_drew | apply rd_drewN | apply rd_alloc)) hb2)
            have HU1' := Lib.hid (Rd.below (by repeat (first | exact HU1.out | apply rd_drew | apply rd_drewN | apply rd_alloc)) hb2)
            have HU2' := Lib.hid (Rd.below (by repeat (first | exact HU2.out | apply rd_drew | apply rd_drewN | apply rd_alloc)) hb2)
            clear hb2
            have HH := HH'
            have HB := HB'
            have HC := HC'
            have HU1 := HU1'
            have HU2 := HU2'
            clear HH' HB' HC' HU1' HU2'
            refine hK.out _ _ ?_ (fun hHeld => ?_)
            · (try dsimp only); (repeat (first | exact HH.out | apply UA.drew | apply UA.drewN | apply UA.alloc))
            clear hK K
            try simp only [Act.put, List.setIfInBounds_toArray, List.set_cons_zero, List.set_cons_succ]
            refine wpAnyH_ready (rs := [14]) (by kernel_rfl) (by simp) ?_
            refine AllReadyH.cons (by simp only [List.getElem?_toArray, List.getElem?_cons_succ, List.getElem?_cons_zero]; first | done | rfl) (fun K hK => ?_) ?_
            · go_simp
              go_at_call 43
              refine (num_own (u64 u.cls) _ (u64_bd _).1 (u64_bd _).2).mono ?_
              rintro e v2 ⟨u2, rfl, hu2, hb2⟩
              obtain ⟨b2, c2, rfl⟩ := hu2.rd.shape
              have HU4 := Lib.hid hu2.rd
              clear hu2
              have HH' := Lib.hid (UA.below (by repeat (first | exact HH.out | apply UA.drew | apply UA.drewN | apply UA.alloc)) hb2)
              have HB' := Lib.hid (bl_bl (by repeat (first | exact HB.out | apply bl_drew | apply bl_drewN | apply bl_alloc)) hb2)
              have HC' := Lib.hid (Rd.below (by repeat (first | exact HC.out | apply rd_drew | apply rd_drewN | apply rd_alloc)) hb2)
              have HU1' := Lib.hid (Rd.below (by repeat (first | exact HU1.out | apply rd_drew | apply rd_drewN | apply rd_alloc)) hb2)
              have HU2' := Lib.hid (Rd.below (by repeat (first | exact HU2.out | apply rd_drew | apply rd_drewN | apply rd_alloc)) hb2)
              have HU3' := Lib.hid (Rd.below (by repeat (first | exact HU3.out | apply rd_drew | apply rd_drewN | apply rd_alloc)) hb2)
              clear hb2
              have HH := HH'
              have HB := HB'
              have HC := HC'
              have HU1 := HU1'
              have HU2 := HU2'
              have HU3 := HU3'
              clear HH' HB' HC' HU1' HU2' HU3'
              refine hK.out _ _ ?_ (fun hHeld => ?_)
              · (try dsimp only); (repeat (first | exact HH.out | apply UA.drew | apply UA.drewN | apply UA.alloc))
              clear hK K
              try simp only [Act.put, List.setIfInBounds_toArray, List.set_cons_zero, List.set_cons_succ]
              refine wpAnyH_ready (rs := [17]) (by kernel_rfl) (by simp) ?_
              refine AllReadyH.cons (by simp only [List.getElem?_toArray, List.getElem?_cons_succ, List.getElem?_cons_zero]; first | done | rfl) (fun K hK => ?_) ?_
              · go_simp
                go_at_call 44
                refine (put_any u.r u.s _ OK.out.r.1 OK.out.r.2 OK.out.s.1 OK.out.s.2).mono ?_
                rintro e v2 ⟨u2, rfl, hu2, hb2⟩
                obtain ⟨b2, c2, rfl⟩ := hu2.rd.shape
                have HU5 := Lib.hid hu2.rd
                clear hu2
                have HH' := Lib.hid (UA.below (by repeat (first | exact HH.out | apply UA.drew | apply UA.drewN | apply UA.alloc)) hb2)
                have HB' := Lib.hid (bl_bl (by repeat (first | exact HB.out | apply bl_drew | apply bl_drewN | apply bl_alloc)) hb2)
                have HC' := Lib.hid (Rd.below (by repeat (first | exact HC.out | apply rd_drew | apply rd_drewN | apply rd_alloc)) hb2)
                have HU1' := Lib.hid (Rd.below (by repeat (first | exact HU1.out | apply rd_drew | apply rd_drewN | apply rd_alloc)) hb2)
                have HU2' := Lib.hid (Rd.below (by repeat (first | exact HU2.out | apply rd_drew | apply rd_drewN | apply rd_alloc)) hb2)
                have HU3' := Lib.hid (Rd.below (by repeat (first | exact HU3.out | apply rd_drew | apply rd_drewN | apply rd_alloc)) hb2)
                have HU4' := Lib.hid (Rd.below (by repeat (first | exact HU4.out | apply rd_drew | apply rd_drewN | apply rd_alloc)) hb2)
                clear hb2
                have HH := HH'
                have HB := HB'
                have HC := HC'
                have HU1 := HU1'
                have HU2 := HU2'
                have HU3 := HU3'
                have HU4 := HU4'
                clear HH' HB' HC' HU1' HU2' HU3' HU4'
                refine hK.out _ _ ?_ (fun hHeld => ?_)
                · (try dsimp only); (repeat (first | exact HH.out | apply UA.drew | apply UA.drewN | apply UA.alloc))
                clear hK K
                try simp only [Act.put, List.setIfInBounds_toArray, List.set_cons_zero, List.set_cons_succ]
                refine wpAnyH_ready (rs := [18]) (by kernel_rfl) (by simp) ?_
                refine AllReadyH.cons (by simp only [List.getElem?_toArray, List.getElem?_cons_succ, List.getElem?_cons_zero]; first | done | rfl) (fun K hK => ?_) ?_
                · go_simp
                  refine k_world (fun W' => Below v2.heap.size v2 W' ∧ RdL W' (.slice (some ⟨_, 0, none⟩) 5 5) [lumpB u.nm, numB (u64 u.ver), numB u.key, numB (u64 u.cls), putF u.r u.s]) ⟨(by repeat (first | exact Below.refl _ _ | apply bl_drew | apply bl_drewN | apply bl_alloc)), rdl_five _ _ (by repeat (first | exact HU1.out | apply rd_drew | apply rd_drewN | apply rd_alloc)) (by repeat (first | exact HU2.out | apply rd_drew | apply rd_drewN | apply rd_alloc)) (by repeat (first | exact HU3.out | apply rd_drew | apply rd_drewN | apply rd_alloc)) (by repeat (first | exact HU4.out | apply rd_drew | apply rd_drewN | apply rd_alloc)) (by repeat (first | exact HU5.out | apply rd_drew | apply rd_drewN | apply rd_alloc))⟩ ?_
                  rintro v2 ⟨hb2, hl⟩
                  have HRL := Lib.hid hl
                  clear hl
                  have HH' := Lib.hid (UA.below (by repeat (first | exact HH.out | apply UA.drew | apply UA.drewN | apply UA.alloc)) hb2)
                  have HB' := Lib.hid (bl_bl (by repeat (first | exact HB.out | apply bl_drew | apply bl_drewN | apply bl_alloc)) hb2)
                  have HC' := Lib.hid (Rd.below (by repeat (first | exact HC.out | apply rd_drew | apply rd_drewN | apply rd_alloc)) hb2)
                  have HU1' := Lib.hid (Rd.below (by repeat (first | exact HU1.out | apply rd_drew | apply rd_drewN | apply rd_alloc)) hb2)
                  have HU2' := Lib.hid (Rd.below (by repeat (first | exact HU2.out | apply rd_drew | apply rd_drewN | apply rd_alloc)) hb2)
                  have HU3' := Lib.hid (Rd.below (by repeat (first | exact HU3.out | apply rd_drew | apply rd_drewN | apply rd_alloc)) hb2)
                  have HU4' := Lib.hid (Rd.below (by repeat (first | exact HU4.out | apply rd_drew | apply rd_drewN | apply rd_alloc)) hb2)
                  have HU5' := Lib.hid (Rd.below (by repeat (first | exact HU5.out | apply rd_drew | apply rd_drewN | apply rd_alloc)) hb2)
                  clear hb2
                  have HH := HH'
                  have HB := HB'
                  have HC := HC'
                  have HU1 := HU1'
                  have HU2 := HU2'
                  have HU3 := HU3'
                  have HU4 := HU4'
                  have HU5 := HU5'
                  clear HH' HB' HC' HU1' HU2' HU3' HU4' HU5'
                  refine hK.out _ _ ?_ (fun hHeld => ?_)
                  · (try dsimp only); (repeat (first | exact HH.out | apply UA.drew | apply UA.drewN | apply UA.alloc))
                  clear hK K
                  try simp only [Act.put, List.setIfInBounds_toArray, List.set_cons_zero, List.set_cons_succ]
                  refine wpAnyH_ready (rs := [19]) (by kernel_rfl) (by simp) ?_
                  refine AllReadyH.cons (by simp only [List.getElem?_toArray, List.getElem?_cons_succ, List.getElem?_cons_zero]; first | done | rfl) (fun K hK => ?_) ?_
                  · go_simp
                    go_at_call 41
                    refine (join_any _ [lumpB u.nm, numB (u64 u.ver), numB u.key, numB (u64 u.cls), putF u.r u.s] _ HRL.out (by have := OK.out.nm; simp [totalLen, numB_length, lumpB_length, putF_len]; omega) (by simp)).mono ?_
                    rintro e v2 ⟨u2, rfl, hu2, hb2⟩
                    rw [HF.out] at hu2
                    obtain ⟨b2, c2, rfl⟩ := hu2.rd.shape
                    have HO := Lib.hid hu2.rd
                    clear hu2
                    have HH' := Lib.hid (UA.below (by repeat (first | exact HH.out | apply UA.drew | apply UA.drewN | apply UA.alloc)) hb2)
                    have HB' := Lib.hid (bl_bl (by repeat (first | exact HB.out | apply bl_drew | apply bl_drewN | apply bl_alloc)) hb2)
                    clear hb2
                    have HH := HH'
                    have HB := HB'
                    clear HH' HB'
                    refine hK.out _ _ ?_ (fun hHeld => ?_)
                    · (try dsimp only); (repeat (first | exact HH.out | apply UA.drew | apply UA.drewN | apply UA.alloc))
                    clear hK K
                    try simp only [Act.put, List.setIfInBounds_toArray, List.set_cons_zero, List.set_cons_succ]
                    refine wpAnyH_take (i := 20) (v := ?_) (by simp only [List.getElem?_toArray, List.getElem?_cons_succ, List.getElem?_cons_zero]; first | done | rfl) (by kernel_rfl) (by kernel_rfl) (by kernel_rfl) (fun _ _ _ h => h) (Or.inl ⟨by rfl, ?hy⟩) (by assumption) ?_
                    case hy => (intro w hSw; (try dsimp only at hSw); have c0 := hSw.c0; have c1 := hSw.c1; have c2 := hSw.c2; have c3 := hSw.c3; have c4 := hSw.c4; have c5 := hSw.c5; go_simp; all_goals with_reducible rfl)
                    try simp only [Act.put, List.setIfInBounds_toArray, List.set_cons_zero, List.set_cons_succ]
                    refine wpAnyH_take (i := 21) (v := ?_) (by simp only [List.getElem?_toArray, List.getElem?_cons_succ, List.getElem?_cons_zero]; first | done | rfl) (by kernel_rfl) (by kernel_rfl) (by kernel_rfl) (fun _ _ _ h => h) (Or.inl ⟨by rfl, ?hy⟩) (by assumption) ?_
                    case hy => (intro w hSw; (try dsimp only at hSw); have c0 := hSw.c0; have c1 := hSw.c1; have c2 := hSw.c2; have c3 := hSw.c3; have c4 := hSw.c4; have c5 := hSw.c5; go_simp; all_goals with_reducible rfl)
                    try simp only [Act.put, List.setIfInBounds_toArray, List.set_cons_zero, List.set_cons_succ]
                    refine wpAnyH_done (by kernel_rfl) ?_ _
                    refine NoPanic.normal ?_
                    go_wp2_with fail
                    go_ret2
                    exact ⟨_, rfl, HO.out, HB.out⟩
                  exact AllReadyH.nil
                exact AllReadyH.nil
              exact AllReadyH.nil
            exact AllReadyH.nil
          exact AllReadyH.nil
        exact AllReadyH.nil
      exact AllReadyH.nil
    exact AllReadyH.nil

set_option maxRecDepth 100000 in
set_option maxHeartbeats 3200000 in
theorem rputU_any (u : Up) (w : World) (ok : u.ok) : Calls Try.prog 15 #[upV u] w (GivesPutU w u) := by
  show Calls _ _ #[.agg u.cells.toArray] w _
  have OK := Lib.hid ok
  have HLN := Lib.hid (show u.nm.length ≤ 1099511627776 by have := ok.nm; omega)
  clear ok
  unfold GivesPutU putUErr putUOut
  cases hr : rightU u with
  | false =>
    have HR := Lib.hid hr
    clear hr
    simp only [Bool.false_eq_true, if_false]
    go_enter Try.func15, Try.ntmps15
    go_upto_region 1 with fail
    refine wp_world (fun W => UA w.heap.size u W ∧ Below w.heap.size w W) ⟨UA.new _ _, bl_alloc (Below.refl _ _) _⟩ ?_
    rintro W ⟨hA, hB⟩
    have HH := Lib.hid hA
    have HB := Lib.hid hB
    clear hA hB
    go_wp2_with (refine wpList_load_row rfl 30 (.tmp 1) rfl w.heap.size rfl 30 _ (0, 0) _ HH.out.row Try.underlying30 rfl (up_size _) ?_)
    refine (rrightU_any u _).mono ?_
    rintro e v2 ⟨rfl, hb2⟩
    rw [HR.out]
    have HH2 := Lib.hid (HH.out.below hb2)
    have HB2 := Lib.hid (bl_bl HB.out hb2)
    clear hb2 HH HB
    have HH := HH2
    have HB := HB2
    clear HH2 HB2
    go_wp2_with fail
    go_ret2
    exact ⟨_, rfl, Rd.nil _, HB.out⟩
  | true =>
    have HR := Lib.hid hr
    have HF := Lib.hid (show fieldsE u.nm u.ver u.key ++ numB (u64 u.cls) ++ putF u.r u.s = bytesU u by simp [bytesU, fieldsE])
    clear hr
    simp only [if_true]
    go_enter Try.func15, Try.ntmps15
    go_upto_region 1 with fail
    refine wp_world (fun W => UA w.heap.size u W ∧ Below w.heap.size w W) ⟨UA.new _ _, bl_alloc (Below.refl _ _) _⟩ ?_
    rintro W ⟨hA, hB⟩
    have HH := Lib.hid hA
    have HB := Lib.hid hB
    clear hA hB
    go_wp2_with (refine wpList_load_row rfl 30 (.tmp 1) rfl w.heap.size rfl 30 _ (0, 0) _ HH.out.row Try.underlying30 rfl (up_size _) ?_)
    refine (rrightU_any u _).mono ?_
    rintro e v2 ⟨rfl, hb2⟩
    rw [HR.out]
    have HH2 := Lib.hid (HH.out.below hb2)
    have HB2 := Lib.hid (bl_bl HB.out hb2)
    clear hb2 HH HB
    have HH := HH2
    have HB := HB2
    clear HH2 HB2
    go_upto_region 3 with fail
    obtain ⟨W2, rfl⟩ : ∃ W2, W2 = v2 := ⟨_, rfl⟩
    refine wp_region_noPanic ?_
    refine wp_region_held_drew (S := (fun w' => UA w.heap.size u w')) (by kernel_rfl) ?_ (fun hHeld => ?_)
    · (try dsimp only); (repeat (first | exact HH.out | apply UA.drew | apply UA.drewN | apply UA.alloc))
    refine wpAnyH_take (i := 0) (by simp only [List.getElem?_toArray, List.getElem?_cons_succ, List.getElem?_cons_zero]; first | done | rfl) (by kernel_rfl) (by kernel_rfl) (by kernel_rfl) (fun _ _ _ h => h) (yields_up (by rfl) _ rfl w.heap.size u rfl (fun w hw => hw)) (by assumption) ?_
    try simp only [Act.put, List.setIfInBounds_toArray, List.set_cons_zero, List.set_cons_succ]
    refine wpAnyH_take (i := 3) (v := ?_) (by simp only [List.getElem?_toArray, List.getElem?_cons_succ, List.getElem?_cons_zero]; first | done | rfl) (by kernel_rfl) (by kernel_rfl) (by kernel_rfl) (fun _ _ _ h => h) (Or.inl ⟨by rfl, ?hy⟩) (by assumption) ?_
    case hy => (intro w hSw; (try dsimp only at hSw); have c0 := hSw.c0; have c1 := hSw.c1; have c2 := hSw.c2; have c3 := hSw.c3; have c4 := hSw.c4; have c5 := hSw.c5; go_simp; all_goals with_reducible rfl)
    try simp only [Act.put, List.setIfInBounds_toArray, List.set_cons_zero, List.set_cons_succ]
    refine wpAnyH_take (i := 4) (v := ?_) (by simp only [List.getElem?_toArray, List.getElem?_cons_succ, List.getElem?_cons_zero]; first | done | rfl) (by kernel_rfl) (by kernel_rfl) (by kernel_rfl) (fun _ _ _ h => h) (Or.inl ⟨by rfl, ?hy⟩) (by assumption) ?_
    case hy => (intro w hSw; (try dsimp only at hSw); have c0 := hSw.c0; have c1 := hSw.c1; have c2 := hSw.c2; have c3 := hSw.c3; have c4 := hSw.c4; have c5 := hSw.c5; go_simp; all_goals with_reducible rfl)
    try simp only [Act.put, List.setIfInBounds_toArray, List.set_cons_zero, List.set_cons_succ]
    refine wpAnyH_take (i := 5) (v := ?_) (by simp only [List.getElem?_toArray, List.getElem?_cons_succ, List.getElem?_cons_zero]; first | done | rfl) (by kernel_rfl) (by kernel_rfl) (by kernel_rfl) (fun _ _ _ h => h) (Or.inl ⟨by rfl, ?hy⟩) (by assumption) ?_
    case hy => (intro w hSw; (try dsimp only at hSw); have c0 := hSw.c0; have c1 := hSw.c1; have c2 := hSw.c2; have c3 := hSw.c3; have c4 := hSw.c4; have c5 := hSw.c5; go_simp; all_goals with_reducible rfl)
    try simp only [Act.put, List.setIfInBounds_toArray, List.set_cons_zero, List.set_cons_succ]
    refine wpAnyH_ready (rs := [1]) (by kernel_rfl) (by simp) ?_
    refine AllReadyH.cons (by simp only [List.getElem?_toArray, List.getElem?_cons_succ, List.getElem?_cons_zero]; first | done | rfl) (fun K hK => ?_) ?_
    · go_simp
      go_at_call 16
      refine (rentry_any u _).mono ?_
      rintro e v2 ⟨rfl, hb2⟩
      have HH' := Lib.hid (UA.below (by repeat (first | exact HH.out | apply UA.drew | apply UA.drewN | apply UA.alloc)) hb2)
      have HB' := Lib.hid (bl_bl (by repeat (first | exact HB.out | apply bl_drew | apply bl_drewN | apply bl_alloc)) hb2)
      clear hb2
      have HH := HH'
      have HB := HB'
      clear HH' HB'
      refine hK.out _ _ ?_ (fun hHeld => ?_)
      · (try dsimp only); (repeat (first | exact HH.out | apply UA.drew | apply UA.drewN | apply UA.alloc))
      clear hK K
      try simp only [Act.put, List.setIfInBounds_toArray, List.set_cons_zero, List.set_cons_succ]
      refine wpAnyH_ready (rs := [2]) (by kernel_rfl) (by simp) ?_
      refine AllReadyH.cons (by simp only [List.getElem?_toArray, List.getElem?_cons_succ, List.getElem?_cons_zero]; first | done | rfl) (fun K hK => ?_) ?_
      · go_simp
        go_at_call 28
        refine (rfields_any u.nm u.ver u.key _ OK.out.nm OK.out.key).mono ?_
        rintro e v2 ⟨u2, rfl, hu2, hb2⟩
        obtain ⟨b2, c2, rfl⟩ := hu2.rd.shape
        have HO := Lib.hid (hu2.mono (B' := w.heap.size + 1) (UA.lt (by repeat (first | exact HH.out | apply UA.drew | apply UA.drewN | apply UA.alloc))))
        clear hu2
        have HH' := Lib.hid (UA.below (by repeat (first | exact HH.out | apply UA.drew | apply UA.drewN | apply UA.alloc)) hb2)
        have HB' := Lib.hid (bl_bl (by repeat (first | exact HB.out | apply bl_drew | apply bl_drewN | apply bl_alloc)) hb2)
        clear hb2
        have HH := HH'
        have HB := HB'
        clear HH' HB'
        refine hK.out _ _ ?_ (fun hHeld => ?_)
        · (try dsimp only); (repeat (first | exact HH.out | apply UA.drew | apply UA.drewN | apply UA.alloc))
        clear hK K
        try simp only [Act.put, List.setIfInBounds_toArray, List.set_cons_zero, List.set_cons_succ]
        refine wpAnyH_ready (rs := [6]) (by kernel_rfl) (by simp) ?_
        refine AllReadyH.cons (by simp only [List.getElem?_toArray, List.getElem?_cons_succ, List.getElem?_cons_zero]; first | done | rfl) (fun K hK => ?_) ?_
        · go_simp
          go_at_call 29
          refine (rnum_any (u64 u.cls) _ (u64_bd _).1 (u64_bd _).2).mono ?_
          rintro e v2 ⟨u2, rfl, hu2, hb2⟩
          obtain ⟨b2, c2, rfl⟩ := hu2.rd.shape
          have HV := Lib.hid hu2.rd
          clear hu2
          have HH' := Lib.hid (UA.below (by repeat (first | exact HH.out | apply UA.drew | apply UA.drewN | apply UA.alloc)) hb2)
          have HB' := Lib.hid (bl_bl (by repeat (first | exact HB.out | apply bl_drew | apply bl_drewN | apply bl_alloc)) hb2)
          have HO' := Lib.hid (Own.below (by repeat (first | exact HO.out | apply own_drew | apply own_drewN' | apply Own.alloc)) hb2)
          clear hb2
          have HH := HH'
          have HB := HB'
          have HO := HO'
          clear HH' HB' HO'
          refine hK.out _ _ ?_ (fun hHeld => ?_)
          · (try dsimp only); (repeat (first | exact HH.out | apply UA.drew | apply UA.drewN | apply UA.alloc))
          clear hK K
          try simp only [Act.put, List.setIfInBounds_toArray, List.set_cons_zero, List.set_cons_succ]
          refine wpAnyH_ready (rs := [7]) (by kernel_rfl) (by simp) ?_
          refine AllReadyH.cons (by simp only [List.getElem?_toArray, List.getElem?_cons_succ, List.getElem?_cons_zero]; first | done | rfl) (fun K hK => ?_) ?_
          · skip
            refine step_append_bytes rfl (.tmp 10) (.tmp 14) rfl (w.heap.size + 1) rfl rfl (by repeat (first | exact HO.out | apply own_drew | apply own_drewN' | apply Own.alloc)) (by repeat (first | exact HV.out | apply rd_drew | apply rd_drewN | apply rd_alloc)) (by have := OK.out.nm; simp [fieldsE_length, numB_length]; omega) (UA.lt (by repeat (first | exact HH.out | apply UA.drew | apply UA.drewN | apply UA.alloc))) ?_
            intro v2 w2 ho hg
            generalize hq : fieldsE u.nm u.ver u.key ++ numB (u64 u.cls) = q at ho
            have HQ := Lib.hid hq
            clear hq
            have HG := Lib.hid (show UA _ u w2 ∧ Below w.heap.size w w2 from ⟨UA.grown (by repeat (first | exact HH.out | apply UA.drew | apply UA.drewN | apply UA.alloc)) hg (fun e => by have := Own.row (by repeat (first | exact HO.out | apply own_drew | apply own_drewN' | apply Own.alloc)) _ e; omega), below_grown (by repeat (first | exact HB.out | apply bl_drew | apply bl_drewN | apply bl_alloc)) hg (fun k hk => by have := Own.row (by repeat (first | exact HO.out | apply own_drew | apply own_drewN' | apply Own.alloc)) k hk; omega)⟩)
            obtain ⟨b2, c2, rfl⟩ := ho.rd.shape
            have HO := Lib.hid ho
            have HH := Lib.hid HG.out.1
            have HB := Lib.hid HG.out.2
            clear ho hg HG
            refine hK.out _ _ ?_ (fun hHeld => ?_)
            · (try dsimp only); (repeat (first | exact HH.out | apply UA.drew | apply UA.drewN | apply UA.alloc))
            clear hK K
            try simp only [Act.put, List.setIfInBounds_toArray, List.set_cons_zero, List.set_cons_succ]
            refine wpAnyH_take (i := 8) (v := ?_) (by simp only [List.getElem?_toArray, List.getElem?_cons_succ, List.getElem?_cons_zero]; first | done | rfl) (by kernel_rfl) (by kernel_rfl) (by kernel_rfl) (fun _ _ _ h => h) (Or.inl ⟨by rfl, ?hy⟩) (by assumption) ?_
            case hy => (intro w hSw; (try dsimp only at hSw); have c0 := hSw.c0; have c1 := hSw.c1; have c2 := hSw.c2; have c3 := hSw.c3; have c4 := hSw.c4; have c5 := hSw.c5; go_simp; all_goals with_reducible rfl)
            try simp only [Act.put, List.setIfInBounds_toArray, List.set_cons_zero, List.set_cons_succ]
            refine wpAnyH_done (by kernel_rfl) ?_ _
            refine NoPanic.normal ?_
            have c4 := HH.out.c4
            have c5 := HH.out.c5
            go_wp2_with fail
            refine (rput_any u.r u.s _ OK.out.r.1 OK.out.r.2 OK.out.s.1 OK.out.s.2).mono ?_
            rintro e w7 ⟨u7, rfl, hu7, hb7⟩
            obtain ⟨b7, d7, rfl⟩ := hu7.rd.shape
            have HU7 := Lib.hid hu7.rd
            have HO7 := Lib.hid (HO.out.below hb7)
            have HB7 := Lib.hid (bl_bl HB.out hb7)
            have HS := Lib.hid (Nat.lt_of_lt_of_le HH.out.lt hb7.size)
            clear hu7 hb7
            go_wp2_with (at_builtin; refine wpList_append_bytes rfl (.tmp 16) (.tmp 19) rfl (w.heap.size + 1) rfl rfl HO7.out HU7.out (by have := OK.out.nm; rw [← HQ.out]; simp [fieldsE_length, numB_length, putF_len]; omega) HS.out ?_; intro u8 w8 ho hg)
            rw [← HQ.out, HF.out] at ho
            have HB8 := Lib.hid (below_grown HB7.out hg (fun k hk => by have := Own.row HO7.out k hk; omega))
            have HO8 := Lib.hid ho
            clear ho hg
            go_ret2
            exact ⟨_, rfl, HO8.out.rd, HB8.out⟩
          exact AllReadyH.nil
        exact AllReadyH.nil
      exact AllReadyH.nil
    exact AllReadyH.nil

set_option maxRecDepth 100000 in
set_option maxHeartbeats 3200000 in
theorem rbytesU_any (u : Up) (w : World) (ok : u.ok) : Calls Try.prog 8 #[upV u] w (GivesOwn w (bytesU u)) := by
  show Calls _ _ #[.agg u.cells.toArray] w _
  have OK := Lib.hid ok
  have HF := Lib.hid (show fieldsE u.nm u.ver u.key ++ numB (u64 u.cls) ++ putF u.r u.s = bytesU u by simp [bytesU, fieldsE])
  clear ok
  go_enter Try.func8, Try.ntmps8
  go_upto_region 1 with fail
  refine wp_world (fun W => UA w.heap.size u W ∧ Below w.heap.size w W) ⟨UA.new _ _, bl_alloc (Below.refl _ _) _⟩ ?_
  rintro W ⟨hA, hB⟩
  have HH := Lib.hid hA
  have HB := Lib.hid hB
  clear hA hB
  refine wp_region_noPanic ?_
  refine wp_region_held_drew (S := (fun w' => UA w.heap.size u w')) (by kernel_rfl) ?_ (fun hHeld => ?_)
  · (try dsimp only); (repeat (first | exact HH.out | apply UA.drew | apply UA.drewN | apply UA.alloc))
  refine wpAnyH_take (i := 0) (by simp only [List.getElem?_toArray, List.getElem?_cons_succ, List.getElem?_cons_zero]; first | done | rfl) (by kernel_rfl) (by kernel_rfl) (by kernel_rfl) (fun _ _ _ h => h) (yields_up (by rfl) _ rfl w.heap.size u rfl (fun w hw => hw)) (by assumption) ?_
  try simp only [Act.put, List.setIfInBounds_toArray, List.set_cons_zero, List.set_cons_succ]
  refine wpAnyH_take (i := 3) (v := ?_) (by simp only [List.getElem?_toArray, List.getElem?_cons_succ, List.getElem?_cons_zero]; first | done | rfl) (by kernel_rfl) (by kernel_rfl) (by kernel_rfl) (fun _ _ _ h => h) (Or.inl ⟨by rfl, ?hy⟩) (by assumption) ?_
  case hy => (intro w hSw; (try dsimp only at hSw); have c0 := hSw.c0; have c1 := hSw.c1; have c2 := hSw.c2; have c3 := hSw.c3; have c4 := hSw.c4; have c5 := hSw.c5; go_simp; all_goals with_reducible rfl)
  try simp only [Act.put, List.setIfInBounds_toArray, List.set_cons_zero, List.set_cons_succ]
  refine wpAnyH_take (i := 4) (v := ?_) (by simp only [List.getElem?_toArray, List.getElem?_cons_succ, List.getElem?_cons_zero]; first | done | rfl) (by kernel_rfl) (by kernel_rfl) (by kernel_rfl) (fun _ _ _ h => h) (Or.inl ⟨by rfl, ?hy⟩) (by assumption) ?_
  case hy => (intro w hSw; (try dsimp only at hSw); have c0 := hSw.c0; have c1 := hSw.c1; have c2 := hSw.c2; have c3 := hSw.c3; have c4 := hSw.c4; have c5 := hSw.c5; go_simp; all_goals with_reducible rfl)
  try simp only [Act.put, List.setIfInBounds_toArray, List.set_cons_zero, List.set_cons_succ]
  refine wpAnyH_take (i := 5) (v := ?_) (by simp only [List.getElem?_toArray, List.getElem?_cons_succ, List.getElem?_cons_zero]; first | done | rfl) (by kernel_rfl) (by kernel_rfl) (by kernel_rfl) (fun _ _ _ h => h) (Or.inl ⟨by rfl, ?hy⟩) (by assumption) ?_
  case hy => (intro w hSw; (try dsimp only at hSw); have c0 := hSw.c0; have c1 := hSw.c1; have c2 := hSw.c2; have c3 := hSw.c3; have c4 := hSw.c4; have c5 := hSw.c5; go_simp; all_goals with_reducible rfl)
  try simp only [Act.put, List.setIfInBounds_toArray, List.set_cons_zero, List.set_cons_succ]
  refine wpAnyH_ready (rs := [1]) (by kernel_rfl) (by simp) ?_
  refine AllReadyH.cons (by simp only [List.getElem?_toArray, List.getElem?_cons_succ, List.getElem?_cons_zero]; first | done | rfl) (fun K hK => ?_) ?_
  · go_simp
    go_at_call 16
    refine (rentry_any u _).mono ?_
    rintro e v2 ⟨rfl, hb2⟩
    have HH' := Lib.hid (UA.below (by repeat (first | exact HH.out | apply UA.drew | apply UA.drewN | apply UA.alloc)) hb2)
    have HB' := Lib.hid (bl_bl (by repeat (first | exact HB.out | apply bl_drew | apply bl_drewN | apply bl_alloc)) hb2)
    clear hb2
    have HH := HH'
    have HB := HB'
    clear HH' HB'
    refine hK.out _ _ ?_ (fun hHeld => ?_)
    · (try dsimp only); (repeat (first | exact HH.out | apply UA.drew | apply UA.drewN | apply UA.alloc))
    clear hK K
    try simp only [Act.put, List.setIfInBounds_toArray, List.set_cons_zero, List.set_cons_succ]
    refine wpAnyH_ready (rs := [2]) (by kernel_rfl) (by simp) ?_
    refine AllReadyH.cons (by simp only [List.getElem?_toArray, List.getElem?_cons_succ, List.getElem?_cons_zero]; first | done | rfl) (fun K hK => ?_) ?_
    · go_simp
      go_at_call 28
      refine (rfields_any u.nm u.ver u.key _ OK.out.nm OK.out.key).mono ?_
      rintro e v2 ⟨u2, rfl, hu2, hb2⟩
      obtain ⟨b2, c2, rfl⟩ := hu2.rd.shape
      have HO := Lib.hid (hu2.mono (B' := w.heap.size + 1) (UA.lt (by repeat (first | exact HH.out | apply UA.drew | apply UA.drewN | apply UA.alloc))))
      clear hu2
      have HH' := Lib.hid (UA.below (by repeat (first | exact HH.out | apply UA.drew | apply UA.drewN | apply UA.alloc)) hb2)
      have HB' := Lib.hid (bl_bl (by repeat (first | exact HB.out | apply bl_drew | apply bl_drewN | apply bl_alloc)) hb2)
      clear hb2
      have HH := HH'
      have HB := HB'
      clear HH' HB'
      refine hK.out _ _ ?_ (fun hHeld => ?_)
      · (try dsimp only); (repeat (first | exact HH.out | apply UA.drew | apply UA.drewN | apply UA.alloc))
      clear hK K
      try simp only [Act.put, List.setIfInBounds_toArray, List.set_cons_zero, List.set_cons_succ]
      refine wpAnyH_ready (rs := [6]) (by kernel_rfl) (by simp) ?_
      refine AllReadyH.cons (by simp only [List.getElem?_toArray, List.getElem?_cons_succ, List.getElem?_cons_zero]; first | done | rfl) (fun K hK => ?_) ?_
      · go_simp
        go_at_call 29
        refine (rnum_any (u64 u.cls) _ (u64_bd _).1 (u64_bd _).2).mono ?_
        rintro e v2 ⟨u2, rfl, hu2, hb2⟩
        obtain ⟨b2, c2, rfl⟩ := hu2.rd.shape
        have HV := Lib.hid hu2.rd
        clear hu2
        have HH' := Lib.hid (UA.below (by repeat (first | exact HH.out | apply UA.drew | apply UA.drewN | apply UA.alloc)) hb2)
        have HB' := Lib.hid (bl_bl (by repeat (first | exact HB.out | apply bl_drew | apply bl_drewN | apply bl_alloc)) hb2)
        have HO' := Lib.hid (Own.below (by repeat (first | exact HO.out | apply own_drew | apply own_drewN' | apply Own.alloc)) hb2)
        clear hb2
        have HH := HH'
        have HB := HB'
        have HO := HO'
        clear HH' HB' HO'
        refine hK.out _ _ ?_ (fun hHeld => ?_)
        · (try dsimp only); (repeat (first | exact HH.out | apply UA.drew | apply UA.drewN | apply UA.alloc))
        clear hK K
        try simp only [Act.put, List.setIfInBounds_toArray, List.set_cons_zero, List.set_cons_succ]
        refine wpAnyH_ready (rs := [7]) (by kernel_rfl) (by simp) ?_
        refine AllReadyH.cons (by simp only [List.getElem?_toArray, List.getElem?_cons_succ, List.getElem?_cons_zero]; first | done | rfl) (fun K hK => ?_) ?_
        · skip
          refine step_append_bytes rfl (.tmp 6) (.tmp 10) rfl (w.heap.size + 1) rfl rfl (by repeat (first | exact HO.out | apply own_drew | apply own_drewN' | apply Own.alloc)) (by repeat (first | exact HV.out | apply rd_drew | apply rd_drewN | apply rd_alloc)) (by have := OK.out.nm; simp [fieldsE_length, numB_length]; omega) (UA.lt (by repeat (first | exact HH.out | apply UA.drew | apply UA.drewN | apply UA.alloc))) ?_
          intro v2 w2 ho hg
          generalize hq : fieldsE u.nm u.ver u.key ++ numB (u64 u.cls) = q at ho
          have HQ := Lib.hid hq
          clear hq
          have HG := Lib.hid (show UA _ u w2 ∧ Below w.heap.size w w2 from ⟨UA.grown (by repeat (first | exact HH.out | apply UA.drew | apply UA.drewN | apply UA.alloc)) hg (fun e => by have := Own.row (by repeat (first | exact HO.out | apply own_drew | apply own_drewN' | apply Own.alloc)) _ e; omega), below_grown (by repeat (first | exact HB.out | apply bl_drew | apply bl_drewN | apply bl_alloc)) hg (fun k hk => by have := Own.row (by repeat (first | exact HO.out | apply own_drew | apply own_drewN' | apply Own.alloc)) k hk; omega)⟩)
          obtain ⟨b2, c2, rfl⟩ := ho.rd.shape
          have HO := Lib.hid ho
          have HH := Lib.hid HG.out.1
          have HB := Lib.hid HG.out.2
          clear ho hg HG
          refine hK.out _ _ ?_ (fun hHeld => ?_)
          · (try dsimp only); (repeat (first | exact HH.out | apply UA.drew | apply UA.drewN | apply UA.alloc))
          clear hK K
          try simp only [Act.put, List.setIfInBounds_toArray, List.set_cons_zero, List.set_cons_succ]
          refine wpAnyH_take (i := 8) (v := ?_) (by simp only [List.getElem?_toArray, List.getElem?_cons_succ, List.getElem?_cons_zero]; first | done | rfl) (by kernel_rfl) (by kernel_rfl) (by kernel_rfl) (fun _ _ _ h => h) (Or.inl ⟨by rfl, ?hy⟩) (by assumption) ?_
          case hy => (intro w hSw; (try dsimp only at hSw); have c0 := hSw.c0; have c1 := hSw.c1; have c2 := hSw.c2; have c3 := hSw.c3; have c4 := hSw.c4; have c5 := hSw.c5; go_simp; all_goals with_reducible rfl)
          try simp only [Act.put, List.setIfInBounds_toArray, List.set_cons_zero, List.set_cons_succ]
          refine wpAnyH_done (by kernel_rfl) ?_ _
          refine NoPanic.normal ?_
          have c4 := HH.out.c4
          have c5 := HH.out.c5
          go_wp2_with fail
          refine (rput_any u.r u.s _ OK.out.r.1 OK.out.r.2 OK.out.s.1 OK.out.s.2).mono ?_
          rintro e w7 ⟨u7, rfl, hu7, hb7⟩
          obtain ⟨b7, d7, rfl⟩ := hu7.rd.shape
          have HU7 := Lib.hid hu7.rd
          have HO7 := Lib.hid (HO.out.below hb7)
          have HB7 := Lib.hid (bl_bl HB.out hb7)
          have HS := Lib.hid (Nat.lt_of_lt_of_le HH.out.lt hb7.size)
          clear hu7 hb7
          go_wp2_with (at_builtin; refine wpList_append_bytes rfl (.tmp 12) (.tmp 15) rfl (w.heap.size + 1) rfl rfl HO7.out HU7.out (by have := OK.out.nm; rw [← HQ.out]; simp [fieldsE_length, numB_length, putF_len]; omega) HS.out ?_; intro u8 w8 ho hg)
          rw [← HQ.out, HF.out] at ho
          have HB8 := Lib.hid (below_grown HB7.out hg (fun k hk => by have := Own.row HO7.out k hk; omega))
          have HO8 := Lib.hid ho
          clear ho hg
          go_ret
          exact ⟨_, rfl, HO8.out.mono (Nat.le_succ _), HB8.out⟩
        exact AllReadyH.nil
      exact AllReadyH.nil
    exact AllReadyH.nil
  exact AllReadyH.nil
end Go.Proofs.Ytjfkkcoapeipbaa
