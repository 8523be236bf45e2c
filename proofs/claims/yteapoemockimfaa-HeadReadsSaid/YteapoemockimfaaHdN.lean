/-
  Heads: the message, the reference's.
-/
import Derived.Test.YteapoemockimfaaHdM
namespace Go.Proofs.Yteapoemockimfaa
set_option linter.unusedVariables false
set_option linter.unusedSimpArgs false
open Go.RowKit

theorem HA.grown {g : Nat} {h : Hd} {w w' : World} {row : Option Nat} (k : HA g h w) (hb : w.grownBy w' row) (hr : row ≠ some g) : HA g h w' :=
  ⟨by rw [hb.block g k.lt (fun e => hr e.symm)]; exact k.row⟩
theorem Own.alloc {w : World} {B : Nat} {v : Value} {l : List UInt8} (h : Own w B v l) (o : Obj) : Own (w.alloc o) B v l := h.below (bl_alloc (Below.refl _ _) o)
theorem own_drewN' {w : World} {B : Nat} {v : Value} {l : List UInt8} (h : Own w B v l) (n : Nat) : Own (w.drewN n) B v l := h.below (Dr.below (Dr.drewN (Dr.refl _) n) _)
theorem own_drew {w : World} {B : Nat} {v : Value} {l : List UInt8} (h : Own w B v l) : Own w.drew B v l := own_drewN' h 1
theorem own_letter (w : World) (B : Nat) (x : Int) (h0 : 0 ≤ x) (h1 : x < 256) (hB : B ≤ w.heap.size) : Own (w.alloc (.cells #[.int .u8 x] 5)) B (.slice (some ⟨w.heap.size, 0, none⟩) 1 1) [byt x] := by
  rw [← bv_byt x h0 h1]
  exact own_lit w B [byt x] hB (by simp [maxLen])

set_option maxRecDepth 100000 in
set_option maxHeartbeats 3200000 in
theorem rmsg_any (h : Hd) (w : World) (ok : h.ok) : Calls Try.prog 15 #[headV h] w (GivesOwn w (msgF h)) := by
  show Calls _ _ #[.agg h.cells.toArray] w _
  have OK := Lib.hid ok
  have HF := Lib.hid (show (byt 72 :: numB (u64 h.ep)) ++ numB (u64 h.tk) ++ numB (u64 h.ct) ++ h.root ++ h.log = msgF h by simp [msgF])
  clear ok
  go_enter Try.func15, Try.ntmps15
  go_upto_region 1 with fail
  refine wp_world (fun W => HA w.heap.size h W ∧ Below w.heap.size w W) ⟨HA.new _ _, bl_alloc (Below.refl _ _) _⟩ ?_
  rintro W ⟨hA, hB⟩
  have HH := Lib.hid hA
  have HB := Lib.hid hB
  obtain ⟨c0, c1, c2⟩ := (hA.alloc (.cells #[.int .u8 72] 5)).cells3
  clear hA hB
  go_wp2_with fail
  refine (rnum_any (u64 h.ep) _ (u64_bd _).1 (u64_bd _).2).mono ?_
  rintro e v2 ⟨u2, rfl, hu2, hb2⟩
  obtain ⟨b2, c2', rfl⟩ := hu2.rd.shape
  have HU := Lib.hid hu2.rd
  have HO := Lib.hid ((own_letter W (w.heap.size + 1) 72 (by omega) (by omega) HH.out.lt).below hb2)
  have HH := Lib.hid ((HH.out.alloc _).below hb2)
  have HB := Lib.hid (bl_bl (bl_alloc HB.out _) hb2)
  clear hu2 hb2 c0 c1 c2
  go_wp2_with (at_builtin; refine wpList_append_bytes rfl (.tmp 4) (.tmp 8) rfl (w.heap.size + 1) rfl rfl HO.out HU.out (by simp [numB_length]) HH.out.lt ?_)
  intro v3 w3 ho hg
  obtain ⟨b3, c3, rfl⟩ := ho.rd.shape
  have HG := Lib.hid (show HA _ h w3 ∧ Below w.heap.size w w3 from ⟨HA.grown HH.out hg (fun e => by have := Own.row HO.out _ e; omega), below_grown HB.out hg (fun k hk => by have := Own.row HO.out k hk; omega)⟩)
  have HO := Lib.hid ho
  have HH := Lib.hid HG.out.1
  have HB := Lib.hid HG.out.2
  clear ho hg HG
  go_upto_region 2 with fail
  refine wp_region_noPanic ?_
  refine wp_region_held_drew (S := (fun w' => w'.cell? ⟨w.heap.size, 0, none⟩ = some (.int .i64 h.ep) ∧ w'.cell? ⟨w.heap.size, 1, none⟩ = some (.int .i64 h.tk) ∧ w'.cell? ⟨w.heap.size, 2, none⟩ = some (.int .i64 h.ct))) (by kernel_rfl) ?_ (fun hHeld => ?_)
  · (try dsimp only); (refine HA.cells3 ?_; repeat (first | exact HH.out | apply HA.drew | apply HA.drewN | apply HA.alloc))
  refine wpAnyH_take (i := 0) (v := ?_) (by simp only [List.getElem?_toArray, List.getElem?_cons_succ, List.getElem?_cons_zero]; first | done | rfl) (by kernel_rfl) (by kernel_rfl) (by kernel_rfl) (fun _ _ _ h => h) (Or.inl ⟨by rfl, ?hy⟩) (by assumption) ?_
  case hy => (intro w hSw; (try dsimp only at hSw); go_simp; all_goals with_reducible rfl)
  try simp only [Act.put, List.setIfInBounds_toArray, List.set_cons_zero, List.set_cons_succ]
  refine wpAnyH_take (i := 1) (v := ?_) (by simp only [List.getElem?_toArray, List.getElem?_cons_succ, List.getElem?_cons_zero]; first | done | rfl) (by kernel_rfl) (by kernel_rfl) (by kernel_rfl) (fun _ _ _ h => h) (Or.inl ⟨by rfl, ?hy⟩) (by assumption) ?_
  case hy => (intro w hSw; (try dsimp only at hSw); go_simp; all_goals with_reducible rfl)
  try simp only [Act.put, List.setIfInBounds_toArray, List.set_cons_zero, List.set_cons_succ]
  refine wpAnyH_take (i := 2) (v := ?_) (by simp only [List.getElem?_toArray, List.getElem?_cons_succ, List.getElem?_cons_zero]; first | done | rfl) (by kernel_rfl) (by kernel_rfl) (by kernel_rfl) (fun _ _ _ h => h) (Or.inl ⟨by rfl, ?hy⟩) (by assumption) ?_
  case hy => (intro w hSw; (try dsimp only at hSw); go_simp; all_goals with_reducible rfl)
  try simp only [Act.put, List.setIfInBounds_toArray, List.set_cons_zero, List.set_cons_succ]
  refine wpAnyH_take (i := 3) (v := ?_) (by simp only [List.getElem?_toArray, List.getElem?_cons_succ, List.getElem?_cons_zero]; first | done | rfl) (by kernel_rfl) (by kernel_rfl) (by kernel_rfl) (fun _ _ _ h => h) (Or.inl ⟨by rfl, ?hy⟩) (by assumption) ?_
  case hy => (intro w hSw; (try dsimp only at hSw); go_simp; all_goals with_reducible rfl)
  try simp only [Act.put, List.setIfInBounds_toArray, List.set_cons_zero, List.set_cons_succ]
  refine wpAnyH_take (i := 6) (v := ?_) (by simp only [List.getElem?_toArray, List.getElem?_cons_succ, List.getElem?_cons_zero]; first | done | rfl) (by kernel_rfl) (by kernel_rfl) (by kernel_rfl) (fun _ _ _ h => h) (Or.inl ⟨by rfl, ?hy⟩) (by assumption) ?_
  case hy => (intro w hSw; (try dsimp only at hSw); go_simp; all_goals with_reducible rfl)
  try simp only [Act.put, List.setIfInBounds_toArray, List.set_cons_zero, List.set_cons_succ]
  refine wpAnyH_take (i := 7) (v := ?_) (by simp only [List.getElem?_toArray, List.getElem?_cons_succ, List.getElem?_cons_zero]; first | done | rfl) (by kernel_rfl) (by kernel_rfl) (by kernel_rfl) (fun _ _ _ h => h) (Or.inl ⟨by rfl, ?hy⟩) (by assumption) ?_
  case hy => (intro w hSw; (try dsimp only at hSw); go_simp; all_goals with_reducible rfl)
  try simp only [Act.put, List.setIfInBounds_toArray, List.set_cons_zero, List.set_cons_succ]
  refine wpAnyH_take (i := 8) (v := ?_) (by simp only [List.getElem?_toArray, List.getElem?_cons_succ, List.getElem?_cons_zero]; first | done | rfl) (by kernel_rfl) (by kernel_rfl) (by kernel_rfl) (fun _ _ _ h => h) (Or.inl ⟨by rfl, ?hy⟩) (by assumption) ?_
  case hy => (intro w hSw; (try dsimp only at hSw); go_simp; all_goals with_reducible rfl)
  try simp only [Act.put, List.setIfInBounds_toArray, List.set_cons_zero, List.set_cons_succ]
  refine wpAnyH_ready (rs := [4]) (by kernel_rfl) (by simp) ?_
  refine AllReadyH.cons (by simp only [List.getElem?_toArray, List.getElem?_cons_succ, List.getElem?_cons_zero]; first | done | rfl) (fun K hK => ?_) ?_
  · go_simp
    go_at_call 31
    refine (rnum_any (u64 h.tk) _ (u64_bd _).1 (u64_bd _).2).mono ?_
    rintro e v2 ⟨u2, rfl, hu2, hb2⟩
    obtain ⟨b2, c2, rfl⟩ := hu2.rd.shape
    have HU := Lib.hid hu2.rd
    clear hu2
    have HH' := Lib.hid (HA.below (by repeat (first | exact HH.out | apply HA.drew | apply HA.drewN | apply HA.alloc)) hb2)
    have HB' := Lib.hid (bl_bl (by repeat (first | exact HB.out | apply bl_drew | apply bl_drewN | apply bl_alloc)) hb2)
    have HO' := Lib.hid (Own.below (by repeat (first | exact HO.out | apply own_drew | apply own_drewN' | apply Own.alloc)) hb2)
    clear hb2
    have HH := HH'
    have HB := HB'
    have HO := HO'
    clear HH' HB' HO'
    refine hK.out _ _ ?_ (fun hHeld => ?_)
    · (try dsimp only); (refine HA.cells3 ?_; repeat (first | exact HH.out | apply HA.drew | apply HA.drewN | apply HA.alloc))
    clear hK K
    try simp only [Act.put, List.setIfInBounds_toArray, List.set_cons_zero, List.set_cons_succ]
    refine wpAnyH_ready (rs := [5]) (by kernel_rfl) (by simp) ?_
    refine AllReadyH.cons (by simp only [List.getElem?_toArray, List.getElem?_cons_succ, List.getElem?_cons_zero]; first | done | rfl) (fun K hK => ?_) ?_
    · skip
      refine step_append_bytes rfl (.tmp 10) (.tmp 14) rfl (w.heap.size + 1) rfl rfl (by repeat (first | exact HO.out | apply own_drew | apply own_drewN' | apply Own.alloc)) (by repeat (first | exact HU.out | apply rd_drew | apply rd_drewN | apply rd_alloc)) (by simp only [List.length_append, List.length_cons, List.length_nil, numB_length, OK.out.root, OK.out.log]; omega) (HA.lt (by repeat (first | exact HH.out | apply HA.drew | apply HA.drewN | apply HA.alloc))) ?_
      intro v2 w2 ho hg
      have HG := Lib.hid (show HA _ h w2 ∧ Below w.heap.size w w2 from ⟨HA.grown (by repeat (first | exact HH.out | apply HA.drew | apply HA.drewN | apply HA.alloc)) hg (fun e => by have := Own.row (by repeat (first | exact HO.out | apply own_drew | apply own_drewN' | apply Own.alloc)) _ e; omega), below_grown (by repeat (first | exact HB.out | apply bl_drew | apply bl_drewN | apply bl_alloc)) hg (fun k hk => by have := Own.row (by repeat (first | exact HO.out | apply own_drew | apply own_drewN' | apply Own.alloc)) k hk; omega)⟩)
      obtain ⟨b2, c2, rfl⟩ := ho.rd.shape
      have HO := Lib.hid ho
      have HH := Lib.hid HG.out.1
      have HB := Lib.hid HG.out.2
      clear ho hg HG
      refine hK.out _ _ ?_ (fun hHeld => ?_)
      · (try dsimp only); (refine HA.cells3 ?_; repeat (first | exact HH.out | apply HA.drew | apply HA.drewN | apply HA.alloc))
      clear hK K
      try simp only [Act.put, List.setIfInBounds_toArray, List.set_cons_zero, List.set_cons_succ]
      refine wpAnyH_ready (rs := [9]) (by kernel_rfl) (by simp) ?_
      refine AllReadyH.cons (by simp only [List.getElem?_toArray, List.getElem?_cons_succ, List.getElem?_cons_zero]; first | done | rfl) (fun K hK => ?_) ?_
      · go_simp
        go_at_call 31
        refine (rnum_any (u64 h.ct) _ (u64_bd _).1 (u64_bd _).2).mono ?_
        rintro e v2 ⟨u2, rfl, hu2, hb2⟩
        obtain ⟨b2, c2, rfl⟩ := hu2.rd.shape
        have HU := Lib.hid hu2.rd
        clear hu2
        have HH' := Lib.hid (HA.below (by repeat (first | exact HH.out | apply HA.drew | apply HA.drewN | apply HA.alloc)) hb2)
        have HB' := Lib.hid (bl_bl (by repeat (first | exact HB.out | apply bl_drew | apply bl_drewN | apply bl_alloc)) hb2)
        have HO' := Lib.hid (Own.below (by repeat (first | exact HO.out | apply own_drew | apply own_drewN' | apply Own.alloc)) hb2)
        clear hb2
        have HH := HH'
        have HB := HB'
        have HO := HO'
        clear HH' HB' HO'
        refine hK.out _ _ ?_ (fun hHeld => ?_)
        · (try dsimp only); (refine HA.cells3 ?_; repeat (first | exact HH.out | apply HA.drew | apply HA.drewN | apply HA.alloc))
        clear hK K
        try simp only [Act.put, List.setIfInBounds_toArray, List.set_cons_zero, List.set_cons_succ]
        refine wpAnyH_ready (rs := [10]) (by kernel_rfl) (by simp) ?_
        refine AllReadyH.cons (by simp only [List.getElem?_toArray, List.getElem?_cons_succ, List.getElem?_cons_zero]; first | done | rfl) (fun K hK => ?_) ?_
        · skip
          refine step_append_bytes rfl (.tmp 15) (.tmp 19) rfl (w.heap.size + 1) rfl rfl (by repeat (first | exact HO.out | apply own_drew | apply own_drewN' | apply Own.alloc)) (by repeat (first | exact HU.out | apply rd_drew | apply rd_drewN | apply rd_alloc)) (by simp only [List.length_append, List.length_cons, List.length_nil, numB_length, OK.out.root, OK.out.log]; omega) (HA.lt (by repeat (first | exact HH.out | apply HA.drew | apply HA.drewN | apply HA.alloc))) ?_
          intro v2 w2 ho hg
          have HG := Lib.hid (show HA _ h w2 ∧ Below w.heap.size w w2 from ⟨HA.grown (by repeat (first | exact HH.out | apply HA.drew | apply HA.drewN | apply HA.alloc)) hg (fun e => by have := Own.row (by repeat (first | exact HO.out | apply own_drew | apply own_drewN' | apply Own.alloc)) _ e; omega), below_grown (by repeat (first | exact HB.out | apply bl_drew | apply bl_drewN | apply bl_alloc)) hg (fun k hk => by have := Own.row (by repeat (first | exact HO.out | apply own_drew | apply own_drewN' | apply Own.alloc)) k hk; omega)⟩)
          obtain ⟨b2, c2, rfl⟩ := ho.rd.shape
          have HO := Lib.hid ho
          have HH := Lib.hid HG.out.1
          have HB := Lib.hid HG.out.2
          clear ho hg HG
          refine hK.out _ _ ?_ (fun hHeld => ?_)
          · (try dsimp only); (refine HA.cells3 ?_; repeat (first | exact HH.out | apply HA.drew | apply HA.drewN | apply HA.alloc))
          clear hK K
          try simp only [Act.put, List.setIfInBounds_toArray, List.set_cons_zero, List.set_cons_succ]
          refine wpAnyH_take (i := 11) (v := ?_) (by simp only [List.getElem?_toArray, List.getElem?_cons_succ, List.getElem?_cons_zero]; first | done | rfl) (by kernel_rfl) (by kernel_rfl) (by kernel_rfl) (fun _ _ _ h => h) (Or.inl ⟨by rfl, ?hy⟩) (by assumption) ?_
          case hy => (intro w hSw; (try dsimp only at hSw); go_simp; all_goals with_reducible rfl)
          try simp only [Act.put, List.setIfInBounds_toArray, List.set_cons_zero, List.set_cons_succ]
          refine wpAnyH_done (by kernel_rfl) ?_ _
          refine NoPanic.normal ?_
          go_upto_region 3 with fail
          refine wp_region_noPanic ?_
          refine wp_region_held_drew (S := (fun w' => w'.cell? ⟨w.heap.size, 0, none⟩ = some (.int .i64 h.ep) ∧ w'.cell? ⟨w.heap.size, 1, none⟩ = some (.int .i64 h.tk) ∧ w'.cell? ⟨w.heap.size, 2, none⟩ = some (.int .i64 h.ct))) (by kernel_rfl) ?_ (fun hHeld => ?_)
          · (try dsimp only); (refine HA.cells3 ?_; repeat (first | exact HH.out | apply HA.drew | apply HA.drewN | apply HA.alloc))
          refine wpAnyH_take (i := 0) (v := ?_) (by simp only [List.getElem?_toArray, List.getElem?_cons_succ, List.getElem?_cons_zero]; first | done | rfl) (by kernel_rfl) (by kernel_rfl) (by kernel_rfl) (fun _ _ _ h => h) (Or.inl ⟨by rfl, ?hy⟩) (by assumption) ?_
          case hy => (intro w hSw; (try dsimp only at hSw); go_simp; all_goals with_reducible rfl)
          try simp only [Act.put, List.setIfInBounds_toArray, List.set_cons_zero, List.set_cons_succ]
          refine wpAnyH_take (i := 1) (v := ?_) (by simp only [List.getElem?_toArray, List.getElem?_cons_succ, List.getElem?_cons_zero]; first | done | rfl) (by kernel_rfl) (by kernel_rfl) (by kernel_rfl) (fun _ _ _ h => h) (Or.inl ⟨by rfl, ?hy⟩) (by assumption) ?_
          case hy => (intro w hSw; (try dsimp only at hSw); go_simp; all_goals with_reducible rfl)
          try simp only [Act.put, List.setIfInBounds_toArray, List.set_cons_zero, List.set_cons_succ]
          refine wpAnyH_take (i := 2) (v := ?_) (by simp only [List.getElem?_toArray, List.getElem?_cons_succ, List.getElem?_cons_zero]; first | done | rfl) (by kernel_rfl) (by kernel_rfl) (by kernel_rfl) (fun _ _ _ h => h) (Or.inl ⟨by rfl, ?hy⟩) (by assumption) ?_
          case hy => (intro w hSw; (try dsimp only at hSw); go_simp; all_goals with_reducible rfl)
          try simp only [Act.put, List.setIfInBounds_toArray, List.set_cons_zero, List.set_cons_succ]
          refine wpAnyH_take (i := 4) (v := ?_) (by simp only [List.getElem?_toArray, List.getElem?_cons_succ, List.getElem?_cons_zero]; first | done | rfl) (by kernel_rfl) (by kernel_rfl) (by kernel_rfl) (fun _ _ _ h => h) (Or.inl ⟨by rfl, ?hy⟩) (by assumption) ?_
          case hy => (intro w hSw; (try dsimp only at hSw); go_simp; all_goals with_reducible rfl)
          try simp only [Act.put, List.setIfInBounds_toArray, List.set_cons_zero, List.set_cons_succ]
          refine wpAnyH_take (i := 5) (v := ?_) (by simp only [List.getElem?_toArray, List.getElem?_cons_succ, List.getElem?_cons_zero]; first | done | rfl) (by kernel_rfl) (by kernel_rfl) (by kernel_rfl) (fun _ _ _ h => h) (Or.inl ⟨by rfl, ?hy⟩) (by assumption) ?_
          case hy => (intro w hSw; (try dsimp only at hSw); go_simp; all_goals with_reducible rfl)
          try simp only [Act.put, List.setIfInBounds_toArray, List.set_cons_zero, List.set_cons_succ]
          refine wpAnyH_ready (rs := [3]) (by kernel_rfl) (by simp) ?_
          refine AllReadyH.cons (by simp only [List.getElem?_toArray, List.getElem?_cons_succ, List.getElem?_cons_zero]; first | done | rfl) (fun K hK => ?_) ?_
          · skip
            refine step_append_bytes rfl (.tmp 21) (.tmp 23) rfl (w.heap.size + 1) rfl rfl (by repeat (first | exact HO.out | apply own_drew | apply own_drewN' | apply Own.alloc)) (HA.rdRoot (by repeat (first | exact HH.out | apply HA.drew | apply HA.drewN | apply HA.alloc)) OK.out) (by simp only [List.length_append, List.length_cons, List.length_nil, numB_length, OK.out.root, OK.out.log]; omega) (HA.lt (by repeat (first | exact HH.out | apply HA.drew | apply HA.drewN | apply HA.alloc))) ?_
            intro v2 w2 ho hg
            have HG := Lib.hid (show HA _ h w2 ∧ Below w.heap.size w w2 from ⟨HA.grown (by repeat (first | exact HH.out | apply HA.drew | apply HA.drewN | apply HA.alloc)) hg (fun e => by have := Own.row (by repeat (first | exact HO.out | apply own_drew | apply own_drewN' | apply Own.alloc)) _ e; omega), below_grown (by repeat (first | exact HB.out | apply bl_drew | apply bl_drewN | apply bl_alloc)) hg (fun k hk => by have := Own.row (by repeat (first | exact HO.out | apply own_drew | apply own_drewN' | apply Own.alloc)) k hk; omega)⟩)
            obtain ⟨b2, c2, rfl⟩ := ho.rd.shape
            have HO := Lib.hid ho
            have HH := Lib.hid HG.out.1
            have HB := Lib.hid HG.out.2
            clear ho hg HG
            refine hK.out _ _ ?_ (fun hHeld => ?_)
            · (try dsimp only); (refine HA.cells3 ?_; repeat (first | exact HH.out | apply HA.drew | apply HA.drewN | apply HA.alloc))
            clear hK K
            try simp only [Act.put, List.setIfInBounds_toArray, List.set_cons_zero, List.set_cons_succ]
            refine wpAnyH_ready (rs := [6]) (by kernel_rfl) (by simp) ?_
            refine AllReadyH.cons (by simp only [List.getElem?_toArray, List.getElem?_cons_succ, List.getElem?_cons_zero]; first | done | rfl) (fun K hK => ?_) ?_
            · skip
              refine step_append_bytes rfl (.tmp 24) (.tmp 26) rfl (w.heap.size + 1) rfl rfl (by repeat (first | exact HO.out | apply own_drew | apply own_drewN' | apply Own.alloc)) (HA.rdLog (by repeat (first | exact HH.out | apply HA.drew | apply HA.drewN | apply HA.alloc)) OK.out) (by simp only [List.length_append, List.length_cons, List.length_nil, numB_length, OK.out.root, OK.out.log]; omega) (HA.lt (by repeat (first | exact HH.out | apply HA.drew | apply HA.drewN | apply HA.alloc))) ?_
              intro v2 w2 ho hg
              rw [HF.out] at ho
              have HG := Lib.hid (show HA _ h w2 ∧ Below w.heap.size w w2 from ⟨HA.grown (by repeat (first | exact HH.out | apply HA.drew | apply HA.drewN | apply HA.alloc)) hg (fun e => by have := Own.row (by repeat (first | exact HO.out | apply own_drew | apply own_drewN' | apply Own.alloc)) _ e; omega), below_grown (by repeat (first | exact HB.out | apply bl_drew | apply bl_drewN | apply bl_alloc)) hg (fun k hk => by have := Own.row (by repeat (first | exact HO.out | apply own_drew | apply own_drewN' | apply Own.alloc)) k hk; omega)⟩)
              obtain ⟨b2, c2, rfl⟩ := ho.rd.shape
              have HO := Lib.hid ho
              have HH := Lib.hid HG.out.1
              have HB := Lib.hid HG.out.2
              clear ho hg HG
              refine hK.out _ _ ?_ (fun hHeld => ?_)
              · (try dsimp only); (refine HA.cells3 ?_; repeat (first | exact HH.out | apply HA.drew | apply HA.drewN | apply HA.alloc))
              clear hK K
              try simp only [Act.put, List.setIfInBounds_toArray, List.set_cons_zero, List.set_cons_succ]
              refine wpAnyH_take (i := 7) (v := ?_) (by simp only [List.getElem?_toArray, List.getElem?_cons_succ, List.getElem?_cons_zero]; first | done | rfl) (by kernel_rfl) (by kernel_rfl) (by kernel_rfl) (fun _ _ _ h => h) (Or.inl ⟨by rfl, ?hy⟩) (by assumption) ?_
              case hy => (intro w hSw; (try dsimp only at hSw); go_simp; all_goals with_reducible rfl)
              try simp only [Act.put, List.setIfInBounds_toArray, List.set_cons_zero, List.set_cons_succ]
              refine wpAnyH_done (by kernel_rfl) ?_ _
              refine NoPanic.normal ?_
              go_wp2_with fail
              go_ret
              exact ⟨_, rfl, HO.out.mono (Nat.le_succ _), HB.out⟩
            exact AllReadyH.nil
          exact AllReadyH.nil
        exact AllReadyH.nil
      exact AllReadyH.nil
    exact AllReadyH.nil
  exact AllReadyH.nil
end Go.Proofs.Yteapoemockimfaa
