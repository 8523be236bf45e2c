/-
  Heads: Put, the program's; the bytes, the reference's.
-/
import Derived.Test.YteapoemockimfaaHdS
namespace Go.Proofs.Yteapoemockimfaa
set_option linter.unusedVariables false
set_option linter.unusedSimpArgs false
open Go.RowKit
attribute [local irreducible] checkF msgF putF

/-- What Put tells. -/
def putErr (h : Hd) : Int := if rightF h then 0 else 23
def putOut (h : Hd) : List UInt8 := if rightF h then putH h else []
def GivesPut (w : World) (h : Hd) (e : Ending) (w' : World) : Prop := ∃ v, e = .returned (.tuple #[v, .int .i64 (putErr h)]) ∧ Rd w' v (putOut h) ∧ Below w.heap.size w w'

set_option maxRecDepth 100000 in
set_option maxHeartbeats 3200000 in
theorem puth_any (h : Hd) (w : World) (ok : h.ok) : Calls Try.prog 10 #[headV h] w (GivesPut w h) := by
  show Calls _ _ #[.agg h.cells.toArray] w _
  have OK := Lib.hid ok
  clear ok
  unfold GivesPut putErr putOut
  cases hr : rightF h with
  | false =>
    have HR := Lib.hid hr
    clear hr
    simp only [Bool.false_eq_true, if_false]
    go_enter Try.func10, Try.ntmps10
    go_upto_region 1 with fail
    refine wp_world (fun W => HA w.heap.size h W ∧ Below w.heap.size w W) ⟨HA.new _ _, bl_alloc (Below.refl _ _) _⟩ ?_
    rintro W ⟨hA, hB⟩
    have HH := Lib.hid hA
    have HB := Lib.hid hB
    clear hA hB
    go_wp2_with (refine wpList_load_row rfl 28 (.tmp 1) rfl w.heap.size rfl 28 _ (0, 0) _ HH.out.row Try.underlying28 rfl (head_size _ OK.out) ?_)
    refine (right_any h _).mono ?_
    rintro e v2 ⟨rfl, hb2⟩
    rw [HR.out]
    have HH2 := Lib.hid (HH.out.below hb2)
    have HB2 := Lib.hid (bl_bl HB.out hb2)
    clear hb2 HH HB
    have HH := HH2
    have HB := HB2
    clear HH2 HB2
    go_wp2_with fail
    go_ret2
    exact ⟨_, rfl, Rd.nil _, HB.out⟩
  | true =>
    have HR := Lib.hid hr
    have HF := Lib.hid (show [msgF h, putF h.r h.s].flatten = putH h by simp [putH])
    clear hr
    simp only [if_true]
    go_enter Try.func10, Try.ntmps10
    go_upto_region 1 with fail
    refine wp_world (fun W => HA w.heap.size h W ∧ Below w.heap.size w W) ⟨HA.new _ _, bl_alloc (Below.refl _ _) _⟩ ?_
    rintro W ⟨hA, hB⟩
    have HH := Lib.hid hA
    have HB := Lib.hid hB
    clear hA hB
    go_wp2_with (refine wpList_load_row rfl 28 (.tmp 1) rfl w.heap.size rfl 28 _ (0, 0) _ HH.out.row Try.underlying28 rfl (head_size _ OK.out) ?_)
    refine (right_any h _).mono ?_
    rintro e v2 ⟨rfl, hb2⟩
    rw [HR.out]
    have HH2 := Lib.hid (HH.out.below hb2)
    have HB2 := Lib.hid (bl_bl HB.out hb2)
    clear hb2 HH HB
    have HH := HH2
    have HB := HB2
    clear HH2 HB2
    go_upto_region 3 with fail
    obtain ⟨W2, rfl⟩ : ∃ W2, W2 = v2 := ⟨_, rfl⟩
    refine wp_region_noPanic ?_
    refine wp_region_held_drew (S := (fun w' => HA w.heap.size h w')) (by kernel_rfl) ?_ (fun hHeld => ?_)
    · (try dsimp only); (repeat (first | exact HH.out | apply HA.drew | apply HA.drewN | apply HA.alloc))
    refine wpAnyH_take (i := 0) (by simp only [List.getElem?_toArray, List.getElem?_cons_succ, List.getElem?_cons_zero]; first | done | rfl) (by kernel_rfl) (by kernel_rfl) (by kernel_rfl) (fun _ _ _ h => h) (yields_head (by rfl) _ rfl w.heap.size h rfl OK.out (fun w hw => hw)) (by assumption) ?_
    try simp only [Act.put, List.setIfInBounds_toArray, List.set_cons_zero, List.set_cons_succ]
    refine wpAnyH_take (i := 2) (v := ?_) (by simp only [List.getElem?_toArray, List.getElem?_cons_succ, List.getElem?_cons_zero]; first | done | rfl) (by kernel_rfl) (by kernel_rfl) (by kernel_rfl) (fun _ _ _ h => h) (Or.inl ⟨by rfl, ?hy⟩) (by assumption) ?_
    case hy => (intro w hSw; (try dsimp only at hSw); have c67 := hSw.c67 OK.out; have c68 := hSw.c68 OK.out; go_simp; all_goals with_reducible rfl)
    try simp only [Act.put, List.setIfInBounds_toArray, List.set_cons_zero, List.set_cons_succ]
    refine wpAnyH_take (i := 3) (v := ?_) (by simp only [List.getElem?_toArray, List.getElem?_cons_succ, List.getElem?_cons_zero]; first | done | rfl) (by kernel_rfl) (by kernel_rfl) (by kernel_rfl) (fun _ _ _ h => h) (Or.inl ⟨by rfl, ?hy⟩) (by assumption) ?_
    case hy => (intro w hSw; (try dsimp only at hSw); have c67 := hSw.c67 OK.out; have c68 := hSw.c68 OK.out; go_simp; all_goals with_reducible rfl)
    try simp only [Act.put, List.setIfInBounds_toArray, List.set_cons_zero, List.set_cons_succ]
    refine wpAnyH_ready (rs := [1]) (by kernel_rfl) (by simp) ?_
    refine AllReadyH.cons (by simp only [List.getElem?_toArray, List.getElem?_cons_succ, List.getElem?_cons_zero]; first | done | rfl) (fun K hK => ?_) ?_
    · go_simp
      go_at_call 14
      refine (msg_any h _ OK.out).mono ?_
      rintro e v2 ⟨u2, rfl, hu2, hb2⟩
      obtain ⟨b2, c2, rfl⟩ := hu2.rd.shape
      have HU := Lib.hid hu2.rd
      clear hu2
      have HH' := Lib.hid (HA.below (by repeat (first | exact HH.out | apply HA.drew | apply HA.drewN | apply HA.alloc)) hb2)
      have HB' := Lib.hid (bl_bl (by repeat (first | exact HB.out | apply bl_drew | apply bl_drewN | apply bl_alloc)) hb2)
      clear hb2
      have HH := HH'
      have HB := HB'
      clear HH' HB'
      refine hK.out _ _ ?_ (fun hHeld => ?_)
      · (try dsimp only); (repeat (first | exact HH.out | apply HA.drew | apply HA.drewN | apply HA.alloc))
      clear hK K
      try simp only [Act.put, List.setIfInBounds_toArray, List.set_cons_zero, List.set_cons_succ]
      refine wpAnyH_ready (rs := [4]) (by kernel_rfl) (by simp) ?_
      refine AllReadyH.cons (by simp only [List.getElem?_toArray, List.getElem?_cons_succ, List.getElem?_cons_zero]; first | done | rfl) (fun K hK => ?_) ?_
      · go_simp
        go_at_call 29
        refine (put_any h.r h.s _ OK.out.r.1 OK.out.r.2 OK.out.s.1 OK.out.s.2).mono ?_
        rintro e v2 ⟨u2, rfl, hu2, hb2⟩
        obtain ⟨b2, c2, rfl⟩ := hu2.rd.shape
        have HV := Lib.hid hu2.rd
        clear hu2
        have HH' := Lib.hid (HA.below (by repeat (first | exact HH.out | apply HA.drew | apply HA.drewN | apply HA.alloc)) hb2)
        have HB' := Lib.hid (bl_bl (by repeat (first | exact HB.out | apply bl_drew | apply bl_drewN | apply bl_alloc)) hb2)
        have HU' := Lib.hid (Rd.below (by repeat (first | exact HU.out | apply rd_drew | apply rd_drewN | apply rd_alloc)) hb2)
        clear hb2
        have HH := HH'
        have HB := HB'
        have HU := HU'
        clear HH' HB' HU'
        refine hK.out _ _ ?_ (fun hHeld => ?_)
        · (try dsimp only); (repeat (first | exact HH.out | apply HA.drew | apply HA.drewN | apply HA.alloc))
        clear hK K
        try simp only [Act.put, List.setIfInBounds_toArray, List.set_cons_zero, List.set_cons_succ]
        refine wpAnyH_ready (rs := [5]) (by kernel_rfl) (by simp) ?_
        refine AllReadyH.cons (by simp only [List.getElem?_toArray, List.getElem?_cons_succ, List.getElem?_cons_zero]; first | done | rfl) (fun K hK => ?_) ?_
        · go_simp
          refine k_world (fun W' => Below v2.heap.size v2 W' ∧ RdL W' (.slice (some ⟨_, 0, none⟩) 2 2) [msgF h, putF h.r h.s]) ⟨(by repeat (first | exact Below.refl _ _ | apply bl_drew | apply bl_drewN | apply bl_alloc)), rdl_two _ _ (by repeat (first | exact HU.out | apply rd_drew | apply rd_drewN | apply rd_alloc)) (by repeat (first | exact HV.out | apply rd_drew | apply rd_drewN | apply rd_alloc))⟩ ?_
          rintro v2 ⟨hb2, hl⟩
          have HRL := Lib.hid hl
          clear hl
          have HH' := Lib.hid (HA.below (by repeat (first | exact HH.out | apply HA.drew | apply HA.drewN | apply HA.alloc)) hb2)
          have HB' := Lib.hid (bl_bl (by repeat (first | exact HB.out | apply bl_drew | apply bl_drewN | apply bl_alloc)) hb2)
          clear hb2
          have HH := HH'
          have HB := HB'
          clear HH' HB'
          refine hK.out _ _ ?_ (fun hHeld => ?_)
          · (try dsimp only); (repeat (first | exact HH.out | apply HA.drew | apply HA.drewN | apply HA.alloc))
          clear hK K
          try simp only [Act.put, List.setIfInBounds_toArray, List.set_cons_zero, List.set_cons_succ]
          refine wpAnyH_ready (rs := [6]) (by kernel_rfl) (by simp) ?_
          refine AllReadyH.cons (by simp only [List.getElem?_toArray, List.getElem?_cons_succ, List.getElem?_cons_zero]; first | done | rfl) (fun K hK => ?_) ?_
          · go_simp
            go_at_call 28
            refine (join_any _ [msgF h, putF h.r h.s] _ HRL.out (by simp [totalLen, msgF_length h OK.out, putF_len]) (by simp)).mono ?_
            rintro e v2 ⟨u2, rfl, hu2, hb2⟩
            rw [HF.out] at hu2
            obtain ⟨b2, c2, rfl⟩ := hu2.rd.shape
            have HO := Lib.hid hu2.rd
            clear hu2
            have HH' := Lib.hid (HA.below (by repeat (first | exact HH.out | apply HA.drew | apply HA.drewN | apply HA.alloc)) hb2)
            have HB' := Lib.hid (bl_bl (by repeat (first | exact HB.out | apply bl_drew | apply bl_drewN | apply bl_alloc)) hb2)
            clear hb2
            have HH := HH'
            have HB := HB'
            clear HH' HB'
            refine hK.out _ _ ?_ (fun hHeld => ?_)
            · (try dsimp only); (repeat (first | exact HH.out | apply HA.drew | apply HA.drewN | apply HA.alloc))
            clear hK K
            try simp only [Act.put, List.setIfInBounds_toArray, List.set_cons_zero, List.set_cons_succ]
            refine wpAnyH_take (i := 7) (v := ?_) (by simp only [List.getElem?_toArray, List.getElem?_cons_succ, List.getElem?_cons_zero]; first | done | rfl) (by kernel_rfl) (by kernel_rfl) (by kernel_rfl) (fun _ _ _ h => h) (Or.inl ⟨by rfl, ?hy⟩) (by assumption) ?_
            case hy => (intro w hSw; (try dsimp only at hSw); have c67 := hSw.c67 OK.out; have c68 := hSw.c68 OK.out; go_simp; all_goals with_reducible rfl)
            try simp only [Act.put, List.setIfInBounds_toArray, List.set_cons_zero, List.set_cons_succ]
            refine wpAnyH_take (i := 8) (v := ?_) (by simp only [List.getElem?_toArray, List.getElem?_cons_succ, List.getElem?_cons_zero]; first | done | rfl) (by kernel_rfl) (by kernel_rfl) (by kernel_rfl) (fun _ _ _ h => h) (Or.inl ⟨by rfl, ?hy⟩) (by assumption) ?_
            case hy => (intro w hSw; (try dsimp only at hSw); have c67 := hSw.c67 OK.out; have c68 := hSw.c68 OK.out; go_simp; all_goals with_reducible rfl)
            try simp only [Act.put, List.setIfInBounds_toArray, List.set_cons_zero, List.set_cons_succ]
            refine wpAnyH_done (by kernel_rfl) ?_ _
            refine NoPanic.normal ?_
            go_wp2_with fail
            go_ret2
            exact ⟨_, rfl, HO.out, HB.out⟩
          exact AllReadyH.nil
        exact AllReadyH.nil
      exact AllReadyH.nil
    exact AllReadyH.nil

set_option maxRecDepth 100000 in
set_option maxHeartbeats 3200000 in
theorem rbytes_any (h : Hd) (w : World) (ok : h.ok) : Calls Try.prog 21 #[headV h] w (GivesOwn w (putH h)) := by
  show Calls _ _ #[.agg h.cells.toArray] w _
  have OK := Lib.hid ok
  have HF := Lib.hid (show msgF h ++ putF h.r h.s = putH h from rfl)
  clear ok
  go_enter Try.func21, Try.ntmps21
  go_upto_region 1 with fail
  refine wp_world (fun W => HA w.heap.size h W ∧ Below w.heap.size w W) ⟨HA.new _ _, bl_alloc (Below.refl _ _) _⟩ ?_
  rintro W ⟨hA, hB⟩
  have HH := Lib.hid hA
  have HB := Lib.hid hB
  clear hA hB
  refine wp_region_noPanic ?_
  refine wp_region_held_drew (S := (fun w' => HA w.heap.size h w')) (by kernel_rfl) ?_ (fun hHeld => ?_)
  · (try dsimp only); (repeat (first | exact HH.out | apply HA.drew | apply HA.drewN | apply HA.alloc))
  refine wpAnyH_take (i := 0) (by simp only [List.getElem?_toArray, List.getElem?_cons_succ, List.getElem?_cons_zero]; first | done | rfl) (by kernel_rfl) (by kernel_rfl) (by kernel_rfl) (fun _ _ _ h => h) (yields_head (by rfl) _ rfl w.heap.size h rfl OK.out (fun w hw => hw)) (by assumption) ?_
  try simp only [Act.put, List.setIfInBounds_toArray, List.set_cons_zero, List.set_cons_succ]
  refine wpAnyH_take (i := 2) (v := ?_) (by simp only [List.getElem?_toArray, List.getElem?_cons_succ, List.getElem?_cons_zero]; first | done | rfl) (by kernel_rfl) (by kernel_rfl) (by kernel_rfl) (fun _ _ _ h => h) (Or.inl ⟨by rfl, ?hy⟩) (by assumption) ?_
  case hy => (intro w hSw; (try dsimp only at hSw); have c67 := hSw.c67 OK.out; have c68 := hSw.c68 OK.out; go_simp; all_goals with_reducible rfl)
  try simp only [Act.put, List.setIfInBounds_toArray, List.set_cons_zero, List.set_cons_succ]
  refine wpAnyH_take (i := 3) (v := ?_) (by simp only [List.getElem?_toArray, List.getElem?_cons_succ, List.getElem?_cons_zero]; first | done | rfl) (by kernel_rfl) (by kernel_rfl) (by kernel_rfl) (fun _ _ _ h => h) (Or.inl ⟨by rfl, ?hy⟩) (by assumption) ?_
  case hy => (intro w hSw; (try dsimp only at hSw); have c67 := hSw.c67 OK.out; have c68 := hSw.c68 OK.out; go_simp; all_goals with_reducible rfl)
  try simp only [Act.put, List.setIfInBounds_toArray, List.set_cons_zero, List.set_cons_succ]
  refine wpAnyH_ready (rs := [1]) (by kernel_rfl) (by simp) ?_
  refine AllReadyH.cons (by simp only [List.getElem?_toArray, List.getElem?_cons_succ, List.getElem?_cons_zero]; first | done | rfl) (fun K hK => ?_) ?_
  · go_simp
    go_at_call 15
    refine (rmsg_any h _ OK.out).mono ?_
    rintro e v2 ⟨u2, rfl, hu2, hb2⟩
    obtain ⟨b2, c2, rfl⟩ := hu2.rd.shape
    have HO := Lib.hid (hu2.mono (HA.lt (by repeat (first | exact HH.out | apply HA.drew | apply HA.drewN | apply HA.alloc))))
    clear hu2
    have HH' := Lib.hid (HA.below (by repeat (first | exact HH.out | apply HA.drew | apply HA.drewN | apply HA.alloc)) hb2)
    have HB' := Lib.hid (bl_bl (by repeat (first | exact HB.out | apply bl_drew | apply bl_drewN | apply bl_alloc)) hb2)
    clear hb2
    have HH := HH'
    have HB := HB'
    clear HH' HB'
    refine hK.out _ _ ?_ (fun hHeld => ?_)
    · (try dsimp only); (repeat (first | exact HH.out | apply HA.drew | apply HA.drewN | apply HA.alloc))
    clear hK K
    try simp only [Act.put, List.setIfInBounds_toArray, List.set_cons_zero, List.set_cons_succ]
    refine wpAnyH_ready (rs := [4]) (by kernel_rfl) (by simp) ?_
    refine AllReadyH.cons (by simp only [List.getElem?_toArray, List.getElem?_cons_succ, List.getElem?_cons_zero]; first | done | rfl) (fun K hK => ?_) ?_
    · go_simp
      go_at_call 40
      refine (rput_any h.r h.s _ OK.out.r.1 OK.out.r.2 OK.out.s.1 OK.out.s.2).mono ?_
      rintro e v2 ⟨u2, rfl, hu2, hb2⟩
      obtain ⟨b2, c2, rfl⟩ := hu2.rd.shape
      have HV := Lib.hid hu2.rd
      clear hu2
      have HH' := Lib.hid (HA.below (by repeat (first | exact HH.out | apply HA.drew | apply HA.drewN | apply HA.alloc)) hb2)
      have HB' := Lib.hid (bl_bl (by repeat (first | exact HB.out | apply bl_drew | apply bl_drewN | apply bl_alloc)) hb2)
      have HO' := Lib.hid (Own.below (by repeat (first | exact HO.out | apply own_drew | apply own_drewN' | apply Own.alloc)) hb2)
      clear hb2
      have HH := HH'
      have HB := HB'
      have HO := HO'
      clear HH' HB' HO'
      refine hK.out _ _ ?_ (fun hHeld => ?_)
      · (try dsimp only); (repeat (first | exact HH.out | apply HA.drew | apply HA.drewN | apply HA.alloc))
      clear hK K
      try simp only [Act.put, List.setIfInBounds_toArray, List.set_cons_zero, List.set_cons_succ]
      refine wpAnyH_ready (rs := [5]) (by kernel_rfl) (by simp) ?_
      refine AllReadyH.cons (by simp only [List.getElem?_toArray, List.getElem?_cons_succ, List.getElem?_cons_zero]; first | done | rfl) (fun K hK => ?_) ?_
      · skip
        refine step_append_bytes rfl (.tmp 4) (.tmp 7) rfl (w.heap.size + 1) rfl rfl (by repeat (first | exact HO.out | apply own_drew | apply own_drewN' | apply Own.alloc)) (by repeat (first | exact HV.out | apply rd_drew | apply rd_drewN | apply rd_alloc)) (by rw [msgF_length h OK.out, putF_len]; decide) (HA.lt (by repeat (first | exact HH.out | apply HA.drew | apply HA.drewN | apply HA.alloc))) ?_
        intro v2 w2 ho hg
        rw [HF.out] at ho
        have HG := Lib.hid (show HA _ h w2 ∧ Below w.heap.size w w2 from ⟨HA.grown (by repeat (first | exact HH.out | apply HA.drew | apply HA.drewN | apply HA.alloc)) hg (fun e => by have := Own.row (by repeat (first | exact HO.out | apply own_drew | apply own_drewN' | apply Own.alloc)) _ e; omega), below_grown (by repeat (first | exact HB.out | apply bl_drew | apply bl_drewN | apply bl_alloc)) hg (fun k hk => by have := Own.row (by repeat (first | exact HO.out | apply own_drew | apply own_drewN' | apply Own.alloc)) k hk; omega)⟩)
        obtain ⟨b2, c2, rfl⟩ := ho.rd.shape
        have HO := Lib.hid ho
        have HH := Lib.hid HG.out.1
        have HB := Lib.hid HG.out.2
        clear ho hg HG
        refine hK.out _ _ ?_ (fun hHeld => ?_)
        · (try dsimp only); (repeat (first | exact HH.out | apply HA.drew | apply HA.drewN | apply HA.alloc))
        clear hK K
        try simp only [Act.put, List.setIfInBounds_toArray, List.set_cons_zero, List.set_cons_succ]
        refine wpAnyH_take (i := 6) (v := ?_) (by simp only [List.getElem?_toArray, List.getElem?_cons_succ, List.getElem?_cons_zero]; first | done | rfl) (by kernel_rfl) (by kernel_rfl) (by kernel_rfl) (fun _ _ _ h => h) (Or.inl ⟨by rfl, ?hy⟩) (by assumption) ?_
        case hy => (intro w hSw; (try dsimp only at hSw); have c67 := hSw.c67 OK.out; have c68 := hSw.c68 OK.out; go_simp; all_goals with_reducible rfl)
        try simp only [Act.put, List.setIfInBounds_toArray, List.set_cons_zero, List.set_cons_succ]
        refine wpAnyH_done (by kernel_rfl) ?_ _
        refine NoPanic.normal ?_
        go_wp2_with fail
        go_ret
        exact ⟨_, rfl, HO.out.mono (Nat.le_succ _), HB.out⟩
      exact AllReadyH.nil
    exact AllReadyH.nil
  exact AllReadyH.nil
end Go.Proofs.Yteapoemockimfaa
