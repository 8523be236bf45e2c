/-
  Heads: the message, the program's.
-/
import Derived.Test.YteapoemockimfaaHdR
namespace Go.Proofs.Yteapoemockimfaa
set_option linter.unusedVariables false
set_option linter.unusedSimpArgs false
open Go.RowKit

theorem k_world {K : Act → World → Prop} {a : Act} {w : World} (P : World → Prop) (hP : P w) (h : ∀ W', P W' → K a W') : K a w := h w hP
theorem HA.cells3 {g : Nat} {h : Hd} {w : World} (k : HA g h w) : w.cell? ⟨g, 0, none⟩ = some (.int .i64 h.ep) ∧ w.cell? ⟨g, 1, none⟩ = some (.int .i64 h.tk) ∧ w.cell? ⟨g, 2, none⟩ = some (.int .i64 h.ct) := ⟨k.c0, k.c1, k.c2⟩
theorem rdl_six (w : World) {u1 u2 u3 u4 u5 u6 : Value} {l1 l2 l3 l4 l5 l6 : List UInt8} (T : TypeId) (h1 : Rd w u1 l1) (h2 : Rd w u2 l2) (h3 : Rd w u3 l3) (h4 : Rd w u4 l4) (h5 : Rd w u5 l5) (h6 : Rd w u6 l6) :
    RdL (w.alloc (.cells #[u1, u2, u3, u4, u5, u6] T)) (.slice (some ⟨w.heap.size, 0, none⟩) 6 6) [l1, l2, l3, l4, l5, l6] := by
  refine .inr ⟨_, 0, 6, rfl, by simp, by decide, fun i hi => ?_⟩
  have hb := bl_alloc (Below.refl w.heap.size w) (.cells #[u1, u2, u3, u4, u5, u6] T)
  rw [Nat.zero_add, cell_of_row _ _ _ _ _ _ (heap_alloc_new _ _)]
  match i, hi with
  | 0, _ => exact ⟨_, rfl, h1.below hb⟩
  | 1, _ => exact ⟨_, rfl, h2.below hb⟩
  | 2, _ => exact ⟨_, rfl, h3.below hb⟩
  | 3, _ => exact ⟨_, rfl, h4.below hb⟩
  | 4, _ => exact ⟨_, rfl, h5.below hb⟩
  | 5, _ => exact ⟨_, rfl, h6.below hb⟩

set_option maxRecDepth 100000 in
set_option maxHeartbeats 3200000 in
theorem msg_any (h : Hd) (w : World) (ok : h.ok) : Calls Try.prog 14 #[headV h] w (GivesOwn w (msgF h)) := by
  show Calls _ _ #[.agg h.cells.toArray] w _
  go_enter Try.func14, Try.ntmps14
  go_upto_region 1 with fail
  refine wp_world (fun W => HA w.heap.size h W ∧ Below w.heap.size w W) ⟨HA.new _ _, bl_alloc (Below.refl _ _) _⟩ ?_
  rintro W ⟨hA, hB⟩
  have HH := Lib.hid hA
  have HB := Lib.hid hB
  clear hA hB
  have HF := Lib.hid (show [[byt 72], numB (u64 h.ep), numB (u64 h.tk), numB (u64 h.ct), h.root, h.log].flatten = msgF h by simp [msgF])
  refine wp_region_noPanic ?_
  refine wp_region_held_drew (S := (fun w' => w'.cell? ⟨w.heap.size, 0, none⟩ = some (.int .i64 h.ep) ∧ w'.cell? ⟨w.heap.size, 1, none⟩ = some (.int .i64 h.tk) ∧ w'.cell? ⟨w.heap.size, 2, none⟩ = some (.int .i64 h.ct))) (by kernel_rfl) ?_ (fun hHeld => ?_)
  · (try dsimp only); (refine HA.cells3 ?_; repeat (first | exact HH.out | apply HA.drew | apply HA.drewN | apply HA.alloc))
  refine wpAnyH_take (i := 1) (v := ?_) (by simp only [List.getElem?_toArray, List.getElem?_cons_succ, List.getElem?_cons_zero]; first | done | rfl) (by kernel_rfl) (by kernel_rfl) (by kernel_rfl) (fun _ _ _ h => h) (Or.inl ⟨by rfl, ?hy⟩) (by assumption) ?_
  case hy => (intro w hSw; (try dsimp only at hSw); go_simp; all_goals with_reducible rfl)
  try simp only [Act.put, List.setIfInBounds_toArray, List.set_cons_zero, List.set_cons_succ]
  refine wpAnyH_take (i := 2) (v := ?_) (by simp only [List.getElem?_toArray, List.getElem?_cons_succ, List.getElem?_cons_zero]; first | done | rfl) (by kernel_rfl) (by kernel_rfl) (by kernel_rfl) (fun _ _ _ h => h) (Or.inl ⟨by rfl, ?hy⟩) (by assumption) ?_
  case hy => (intro w hSw; (try dsimp only at hSw); go_simp; all_goals with_reducible rfl)
  try simp only [Act.put, List.setIfInBounds_toArray, List.set_cons_zero, List.set_cons_succ]
  refine wpAnyH_take (i := 3) (v := ?_) (by simp only [List.getElem?_toArray, List.getElem?_cons_succ, List.getElem?_cons_zero]; first | done | rfl) (by kernel_rfl) (by kernel_rfl) (by kernel_rfl) (fun _ _ _ h => h) (Or.inl ⟨by rfl, ?hy⟩) (by assumption) ?_
  case hy => (intro w hSw; (try dsimp only at hSw); go_simp; all_goals with_reducible rfl)
  try simp only [Act.put, List.setIfInBounds_toArray, List.set_cons_zero, List.set_cons_succ]
  refine wpAnyH_take (i := 5) (v := ?_) (by simp only [List.getElem?_toArray, List.getElem?_cons_succ, List.getElem?_cons_zero]; first | done | rfl) (by kernel_rfl) (by kernel_rfl) (by kernel_rfl) (fun _ _ _ h => h) (Or.inl ⟨by rfl, ?hy⟩) (by assumption) ?_
  case hy => (intro w hSw; (try dsimp only at hSw); go_simp; all_goals with_reducible rfl)
  try simp only [Act.put, List.setIfInBounds_toArray, List.set_cons_zero, List.set_cons_succ]
  refine wpAnyH_take (i := 6) (v := ?_) (by simp only [List.getElem?_toArray, List.getElem?_cons_succ, List.getElem?_cons_zero]; first | done | rfl) (by kernel_rfl) (by kernel_rfl) (by kernel_rfl) (fun _ _ _ h => h) (Or.inl ⟨by rfl, ?hy⟩) (by assumption) ?_
  case hy => (intro w hSw; (try dsimp only at hSw); go_simp; all_goals with_reducible rfl)
  try simp only [Act.put, List.setIfInBounds_toArray, List.set_cons_zero, List.set_cons_succ]
  refine wpAnyH_take (i := 7) (v := ?_) (by simp only [List.getElem?_toArray, List.getElem?_cons_succ, List.getElem?_cons_zero]; first | done | rfl) (by kernel_rfl) (by kernel_rfl) (by kernel_rfl) (fun _ _ _ h => h) (Or.inl ⟨by rfl, ?hy⟩) (by assumption) ?_
  case hy => (intro w hSw; (try dsimp only at hSw); go_simp; all_goals with_reducible rfl)
  try simp only [Act.put, List.setIfInBounds_toArray, List.set_cons_zero, List.set_cons_succ]
  refine wpAnyH_take (i := 9) (v := ?_) (by simp only [List.getElem?_toArray, List.getElem?_cons_succ, List.getElem?_cons_zero]; first | done | rfl) (by kernel_rfl) (by kernel_rfl) (by kernel_rfl) (fun _ _ _ h => h) (Or.inl ⟨by rfl, ?hy⟩) (by assumption) ?_
  case hy => (intro w hSw; (try dsimp only at hSw); go_simp; all_goals with_reducible rfl)
  try simp only [Act.put, List.setIfInBounds_toArray, List.set_cons_zero, List.set_cons_succ]
  refine wpAnyH_take (i := 10) (v := ?_) (by simp only [List.getElem?_toArray, List.getElem?_cons_succ, List.getElem?_cons_zero]; first | done | rfl) (by kernel_rfl) (by kernel_rfl) (by kernel_rfl) (fun _ _ _ h => h) (Or.inl ⟨by rfl, ?hy⟩) (by assumption) ?_
  case hy => (intro w hSw; (try dsimp only at hSw); go_simp; all_goals with_reducible rfl)
  try simp only [Act.put, List.setIfInBounds_toArray, List.set_cons_zero, List.set_cons_succ]
  refine wpAnyH_take (i := 11) (v := ?_) (by simp only [List.getElem?_toArray, List.getElem?_cons_succ, List.getElem?_cons_zero]; first | done | rfl) (by kernel_rfl) (by kernel_rfl) (by kernel_rfl) (fun _ _ _ h => h) (Or.inl ⟨by rfl, ?hy⟩) (by assumption) ?_
  case hy => (intro w hSw; (try dsimp only at hSw); go_simp; all_goals with_reducible rfl)
  try simp only [Act.put, List.setIfInBounds_toArray, List.set_cons_zero, List.set_cons_succ]
  refine wpAnyH_take (i := 13) (v := ?_) (by simp only [List.getElem?_toArray, List.getElem?_cons_succ, List.getElem?_cons_zero]; first | done | rfl) (by kernel_rfl) (by kernel_rfl) (by kernel_rfl) (fun _ _ _ h => h) (Or.inl ⟨by rfl, ?hy⟩) (by assumption) ?_
  case hy => (intro w hSw; (try dsimp only at hSw); go_simp; all_goals with_reducible rfl)
  try simp only [Act.put, List.setIfInBounds_toArray, List.set_cons_zero, List.set_cons_succ]
  refine wpAnyH_take (i := 14) (v := ?_) (by simp only [List.getElem?_toArray, List.getElem?_cons_succ, List.getElem?_cons_zero]; first | done | rfl) (by kernel_rfl) (by kernel_rfl) (by kernel_rfl) (fun _ _ _ h => h) (Or.inl ⟨by rfl, ?hy⟩) (by assumption) ?_
  case hy => (intro w hSw; (try dsimp only at hSw); go_simp; all_goals with_reducible rfl)
  try simp only [Act.put, List.setIfInBounds_toArray, List.set_cons_zero, List.set_cons_succ]
  refine wpAnyH_take (i := 15) (v := ?_) (by simp only [List.getElem?_toArray, List.getElem?_cons_succ, List.getElem?_cons_zero]; first | done | rfl) (by kernel_rfl) (by kernel_rfl) (by kernel_rfl) (fun _ _ _ h => h) (Or.inl ⟨by rfl, ?hy⟩) (by assumption) ?_
  case hy => (intro w hSw; (try dsimp only at hSw); go_simp; all_goals with_reducible rfl)
  try simp only [Act.put, List.setIfInBounds_toArray, List.set_cons_zero, List.set_cons_succ]
  refine wpAnyH_take (i := 16) (v := ?_) (by simp only [List.getElem?_toArray, List.getElem?_cons_succ, List.getElem?_cons_zero]; first | done | rfl) (by kernel_rfl) (by kernel_rfl) (by kernel_rfl) (fun _ _ _ h => h) (Or.inl ⟨by rfl, ?hy⟩) (by assumption) ?_
  case hy => (intro w hSw; (try dsimp only at hSw); go_simp; all_goals with_reducible rfl)
  try simp only [Act.put, List.setIfInBounds_toArray, List.set_cons_zero, List.set_cons_succ]
  refine wpAnyH_ready (rs := [0, 4]) (by kernel_rfl) (by simp) ?_
  refine AllReadyH.cons (by simp only [List.getElem?_toArray, List.getElem?_cons_succ, List.getElem?_cons_zero]; first | done | rfl) (fun K hK => ?_) ?_
  · go_simp
    refine k_world (fun W' => Below W.heap.size W W' ∧ Rd W' (.slice (some ⟨_, 0, none⟩) 1 1) [byt 72]) ⟨(by repeat (first | exact Below.refl _ _ | apply bl_drew | apply bl_drewN | apply bl_alloc)), (by first | exact rd_one _ 72 (by omega) (by omega) | exact rd_drew (rd_one _ 72 (by omega) (by omega)))⟩ ?_
    rintro v2 ⟨hb2, hl⟩
    have HL := Lib.hid hl
    clear hl
    have HH' := Lib.hid (HA.below (by repeat (first | exact HH.out | apply HA.drew | apply HA.drewN | apply HA.alloc)) hb2)
    have HB' := Lib.hid (bl_bl (by repeat (first | exact HB.out | apply bl_drew | apply bl_drewN | apply bl_alloc)) hb2)
    clear hb2
    have HH := HH'
    have HB := HB'
    clear HH' HB'
    refine hK.out _ _ ?_ (fun hHeld => ?_)
    · (try dsimp only); (refine HA.cells3 ?_; repeat (first | exact HH.out | apply HA.drew | apply HA.drewN | apply HA.alloc))
    clear hK K
    try simp only [Act.put, List.setIfInBounds_toArray, List.set_cons_zero, List.set_cons_succ]
    refine wpAnyH_ready (rs := [4]) (by kernel_rfl) (by simp) ?_
    refine AllReadyH.cons (by simp only [List.getElem?_toArray, List.getElem?_cons_succ, List.getElem?_cons_zero]; first | done | rfl) (fun K hK => ?_) ?_
    · go_simp
      go_at_call 30
      refine (num_own (u64 h.ep) _ (u64_bd _).1 (u64_bd _).2).mono ?_
      rintro e v2 ⟨u2, rfl, hu2, hb2⟩
      obtain ⟨b2, c2, rfl⟩ := hu2.rd.shape
      have HU1 := Lib.hid hu2.rd
      clear hu2
      have HH' := Lib.hid (HA.below (by repeat (first | exact HH.out | apply HA.drew | apply HA.drewN | apply HA.alloc)) hb2)
      have HB' := Lib.hid (bl_bl (by repeat (first | exact HB.out | apply bl_drew | apply bl_drewN | apply bl_alloc)) hb2)
      have HL' := Lib.hid (Rd.below (by repeat (first | exact HL.out | apply rd_drew | apply rd_drewN | apply rd_alloc)) hb2)
      clear hb2
      have HH := HH'
      have HB := HB'
      have HL := HL'
      clear HH' HB' HL'
      refine hK.out _ _ ?_ (fun hHeld => ?_)
      · (try dsimp only); (refine HA.cells3 ?_; repeat (first | exact HH.out | apply HA.drew | apply HA.drewN | apply HA.alloc))
      clear hK K
      try simp only [Act.put, List.setIfInBounds_toArray, List.set_cons_zero, List.set_cons_succ]
      refine wpAnyH_ready (rs := [8]) (by kernel_rfl) (by simp) ?_
      refine AllReadyH.cons (by simp only [List.getElem?_toArray, List.getElem?_cons_succ, List.getElem?_cons_zero]; first | done | rfl) (fun K hK => ?_) ?_
      · go_simp
        go_at_call 30
        refine (num_own (u64 h.tk) _ (u64_bd _).1 (u64_bd _).2).mono ?_
        rintro e v2 ⟨u2, rfl, hu2, hb2⟩
        obtain ⟨b2, c2, rfl⟩ := hu2.rd.shape
        have HU2 := Lib.hid hu2.rd
        clear hu2
        have HH' := Lib.hid (HA.below (by repeat (first | exact HH.out | apply HA.drew | apply HA.drewN | apply HA.alloc)) hb2)
        have HB' := Lib.hid (bl_bl (by repeat (first | exact HB.out | apply bl_drew | apply bl_drewN | apply bl_alloc)) hb2)
        have HL' := Lib.hid (Rd.below (by repeat (first | exact HL.out | apply rd_drew | apply rd_drewN | apply rd_alloc)) hb2)
        have HU1' := Lib.hid (Rd.below (by repeat (first | exact HU1.out | apply rd_drew | apply rd_drewN | apply rd_alloc)) hb2)
        clear hb2
        have HH := HH'
        have HB := HB'
        have HL := HL'
        have HU1 := HU1'
        clear HH' HB' HL' HU1'
        refine hK.out _ _ ?_ (fun hHeld => ?_)
        · (try dsimp only); (refine HA.cells3 ?_; repeat (first | exact HH.out | apply HA.drew | apply HA.drewN | apply HA.alloc))
        clear hK K
        try simp only [Act.put, List.setIfInBounds_toArray, List.set_cons_zero, List.set_cons_succ]
        refine wpAnyH_ready (rs := [12]) (by kernel_rfl) (by simp) ?_
        refine AllReadyH.cons (by simp only [List.getElem?_toArray, List.getElem?_cons_succ, List.getElem?_cons_zero]; first | done | rfl) (fun K hK => ?_) ?_
        · go_simp
          go_at_call 30
          refine (num_own (u64 h.ct) _ (u64_bd _).1 (u64_bd _).2).mono ?_
          rintro e v2 ⟨u2, rfl, hu2, hb2⟩
          obtain ⟨b2, c2, rfl⟩ := hu2.rd.shape
          have HU3 := Lib.hid hu2.rd
          clear hu2
          have HH' := Lib.hid (HA.below (by repeat (first | exact HH.out | apply HA.drew | apply HA.drewN | apply HA.alloc)) hb2)
          have HB' := Lib.hid (bl_bl (by repeat (first | exact HB.out | apply bl_drew | apply bl_drewN | apply bl_alloc)) hb2)
          have HL' := Lib.hid (Rd.below (by repeat (first | exact HL.out | apply rd_drew | apply rd_drewN | apply rd_alloc)) hb2)
          have HU1' := Lib.hid (Rd.below (by repeat (first | exact HU1.out | apply rd_drew | apply rd_drewN | apply rd_alloc)) hb2)
          have HU2' := Lib.hid (Rd.below (by repeat (first | exact HU2.out | apply rd_drew | apply rd_drewN | apply rd_alloc)) hb2)
          clear hb2
          have HH := HH'
          have HB := HB'
          have HL := HL'
          have HU1 := HU1'
          have HU2 := HU2'
          clear HH' HB' HL' HU1' HU2'
          refine hK.out _ _ ?_ (fun hHeld => ?_)
          · (try dsimp only); (refine HA.cells3 ?_; repeat (first | exact HH.out | apply HA.drew | apply HA.drewN | apply HA.alloc))
          clear hK K
          try simp only [Act.put, List.setIfInBounds_toArray, List.set_cons_zero, List.set_cons_succ]
          refine wpAnyH_ready (rs := [17]) (by kernel_rfl) (by simp) ?_
          refine AllReadyH.cons (by simp only [List.getElem?_toArray, List.getElem?_cons_succ, List.getElem?_cons_zero]; first | done | rfl) (fun K hK => ?_) ?_
          · go_simp
            refine k_world (fun W' => Below v2.heap.size v2 W' ∧ RdL W' (.slice (some ⟨_, 0, none⟩) 6 6) [[byt 72], numB (u64 h.ep), numB (u64 h.tk), numB (u64 h.ct), h.root, h.log]) ⟨(by repeat (first | exact Below.refl _ _ | apply bl_drew | apply bl_drewN | apply bl_alloc)), rdl_six _ _ (by repeat (first | exact HL.out | apply rd_drew | apply rd_drewN | apply rd_alloc)) (by repeat (first | exact HU1.out | apply rd_drew | apply rd_drewN | apply rd_alloc)) (by repeat (first | exact HU2.out | apply rd_drew | apply rd_drewN | apply rd_alloc)) (by repeat (first | exact HU3.out | apply rd_drew | apply rd_drewN | apply rd_alloc)) (HA.rdRoot (by repeat (first | exact HH.out | apply HA.drew | apply HA.drewN | apply HA.alloc)) ok) (HA.rdLog (by repeat (first | exact HH.out | apply HA.drew | apply HA.drewN | apply HA.alloc)) ok)⟩ ?_
            rintro v2 ⟨hb2, hl⟩
            have HRL := Lib.hid hl
            clear hl
            have HH' := Lib.hid (HA.below (by repeat (first | exact HH.out | apply HA.drew | apply HA.drewN | apply HA.alloc)) hb2)
            have HB' := Lib.hid (bl_bl (by repeat (first | exact HB.out | apply bl_drew | apply bl_drewN | apply bl_alloc)) hb2)
            have HL' := Lib.hid (Rd.below (by repeat (first | exact HL.out | apply rd_drew | apply rd_drewN | apply rd_alloc)) hb2)
            have HU1' := Lib.hid (Rd.below (by repeat (first | exact HU1.out | apply rd_drew | apply rd_drewN | apply rd_alloc)) hb2)
            have HU2' := Lib.hid (Rd.below (by repeat (first | exact HU2.out | apply rd_drew | apply rd_drewN | apply rd_alloc)) hb2)
            have HU3' := Lib.hid (Rd.below (by repeat (first | exact HU3.out | apply rd_drew | apply rd_drewN | apply rd_alloc)) hb2)
            clear hb2
            have HH := HH'
            have HB := HB'
            have HL := HL'
            have HU1 := HU1'
            have HU2 := HU2'
            have HU3 := HU3'
            clear HH' HB' HL' HU1' HU2' HU3'
            refine hK.out _ _ ?_ (fun hHeld => ?_)
            · (try dsimp only); (refine HA.cells3 ?_; repeat (first | exact HH.out | apply HA.drew | apply HA.drewN | apply HA.alloc))
            clear hK K
            try simp only [Act.put, List.setIfInBounds_toArray, List.set_cons_zero, List.set_cons_succ]
            refine wpAnyH_ready (rs := [18]) (by kernel_rfl) (by simp) ?_
            refine AllReadyH.cons (by simp only [List.getElem?_toArray, List.getElem?_cons_succ, List.getElem?_cons_zero]; first | done | rfl) (fun K hK => ?_) ?_
            · go_simp
              go_at_call 28
              refine (join_any _ [[byt 72], numB (u64 h.ep), numB (u64 h.tk), numB (u64 h.ct), h.root, h.log] _ HRL.out (by simp [totalLen, numB_length, ok.root, ok.log]) (by simp)).mono ?_
              rintro e v2 ⟨u2, rfl, hu2, hb2⟩
              rw [HF.out] at hu2
              obtain ⟨b2, c2, rfl⟩ := hu2.rd.shape
              have HO := Lib.hid (hu2.mono (Below.size (by repeat (first | exact HB.out | apply bl_drew | apply bl_drewN | apply bl_alloc))))
              clear hu2
              have HH' := Lib.hid (HA.below (by repeat (first | exact HH.out | apply HA.drew | apply HA.drewN | apply HA.alloc)) hb2)
              have HB' := Lib.hid (bl_bl (by repeat (first | exact HB.out | apply bl_drew | apply bl_drewN | apply bl_alloc)) hb2)
              clear hb2
              have HH := HH'
              have HB := HB'
              clear HH' HB'
              refine hK.out _ _ ?_ (fun hHeld => ?_)
              · (try dsimp only); (refine HA.cells3 ?_; repeat (first | exact HH.out | apply HA.drew | apply HA.drewN | apply HA.alloc))
              clear hK K
              try simp only [Act.put, List.setIfInBounds_toArray, List.set_cons_zero, List.set_cons_succ]
              refine wpAnyH_take (i := 19) (v := ?_) (by simp only [List.getElem?_toArray, List.getElem?_cons_succ, List.getElem?_cons_zero]; first | done | rfl) (by kernel_rfl) (by kernel_rfl) (by kernel_rfl) (fun _ _ _ h => h) (Or.inl ⟨by rfl, ?hy⟩) (by assumption) ?_
              case hy => (intro w hSw; (try dsimp only at hSw); go_simp; all_goals with_reducible rfl)
              try simp only [Act.put, List.setIfInBounds_toArray, List.set_cons_zero, List.set_cons_succ]
              refine wpAnyH_done (by kernel_rfl) ?_ _
              refine NoPanic.normal ?_
              go_wp2_with fail
              go_ret
              exact ⟨_, rfl, HO.out, HB.out⟩
            exact AllReadyH.nil
          exact AllReadyH.nil
        exact AllReadyH.nil
      exact AllReadyH.nil
    exact AllReadyH.nil
  refine AllReadyH.cons (by simp only [List.getElem?_toArray, List.getElem?_cons_succ, List.getElem?_cons_zero]; first | done | rfl) (fun K hK => ?_) ?_
  · go_simp
    go_at_call 30
    refine (num_own (u64 h.ep) _ (u64_bd _).1 (u64_bd _).2).mono ?_
    rintro e v2 ⟨u2, rfl, hu2, hb2⟩
    obtain ⟨b2, c2, rfl⟩ := hu2.rd.shape
    have HU1 := Lib.hid hu2.rd
    clear hu2
    have HH' := Lib.hid (HA.below (by repeat (first | exact HH.out | apply HA.drew | apply HA.drewN | apply HA.alloc)) hb2)
    have HB' := Lib.hid (bl_bl (by repeat (first | exact HB.out | apply bl_drew | apply bl_drewN | apply bl_alloc)) hb2)
    clear hb2
    have HH := HH'
    have HB := HB'
    clear HH' HB'
    refine hK.out _ _ ?_ (fun hHeld => ?_)
    · (try dsimp only); (refine HA.cells3 ?_; repeat (first | exact HH.out | apply HA.drew | apply HA.drewN | apply HA.alloc))
    clear hK K
    try simp only [Act.put, List.setIfInBounds_toArray, List.set_cons_zero, List.set_cons_succ]
    refine wpAnyH_ready (rs := [0, 8]) (by kernel_rfl) (by simp) ?_
    refine AllReadyH.cons (by simp only [List.getElem?_toArray, List.getElem?_cons_succ, List.getElem?_cons_zero]; first | done | rfl) (fun K hK => ?_) ?_
    · go_simp
      refine k_world (fun W' => Below v2.heap.size v2 W' ∧ Rd W' (.slice (some ⟨_, 0, none⟩) 1 1) [byt 72]) ⟨(by repeat (first | exact Below.refl _ _ | apply bl_drew | apply bl_drewN | apply bl_alloc)), (by first | exact rd_one _ 72 (by omega) (by omega) | exact rd_drew (rd_one _ 72 (by omega) (by omega)))⟩ ?_
      rintro v2 ⟨hb2, hl⟩
      have HL := Lib.hid hl
      clear hl
      have HH' := Lib.hid (HA.below (by repeat (first | exact HH.out | apply HA.drew | apply HA.drewN | apply HA.alloc)) hb2)
      have HB' := Lib.hid (bl_bl (by repeat (first | exact HB.out | apply bl_drew | apply bl_drewN | apply bl_alloc)) hb2)
      have HU1' := Lib.hid (Rd.below (by repeat (first | exact HU1.out | apply rd_drew | apply rd_drewN | apply rd_alloc)) hb2)
      clear hb2
      have HH := HH'
      have HB := HB'
      have HU1 := HU1'
      clear HH' HB' HU1'
      refine hK.out _ _ ?_ (fun hHeld => ?_)
      · (try dsimp only); (refine HA.cells3 ?_; repeat (first | exact HH.out | apply HA.drew | apply HA.drewN | apply HA.alloc))
      clear hK K
      try simp only [Act.put, List.setIfInBounds_toArray, List.set_cons_zero, List.set_cons_succ]
      refine wpAnyH_ready (rs := [8]) (by kernel_rfl) (by simp) ?_
      refine AllReadyH.cons (by simp only [List.getElem?_toArray, List.getElem?_cons_succ, List.getElem?_cons_zero]; first | done | rfl) (fun K hK => ?_) ?_
      · go_simp
        go_at_call 30
        refine (num_own (u64 h.tk) _ (u64_bd _).1 (u64_bd _).2).mono ?_
        rintro e v2 ⟨u2, rfl, hu2, hb2⟩
        obtain ⟨b2, c2, rfl⟩ := hu2.rd.shape
        have HU2 := Lib.hid hu2.rd
        clear hu2
        have HH' := Lib.hid (HA.below (by repeat (first | exact HH.out | apply HA.drew | apply HA.drewN | apply HA.alloc)) hb2)
        have HB' := Lib.hid (bl_bl (by repeat (first | exact HB.out | apply bl_drew | apply bl_drewN | apply bl_alloc)) hb2)
        have HL' := Lib.hid (Rd.below (by repeat (first | exact HL.out | apply rd_drew | apply rd_drewN | apply rd_alloc)) hb2)
        have HU1' := Lib.hid (Rd.below (by repeat (first | exact HU1.out | apply rd_drew | apply rd_drewN | apply rd_alloc)) hb2)
        clear hb2
        have HH := HH'
        have HB := HB'
        have HL := HL'
        have HU1 := HU1'
        clear HH' HB' HL' HU1'
        refine hK.out _ _ ?_ (fun hHeld => ?_)
        · (try dsimp only); (refine HA.cells3 ?_; repeat (first | exact HH.out | apply HA.drew | apply HA.drewN | apply HA.alloc))
        clear hK K
        try simp only [Act.put, List.setIfInBounds_toArray, List.set_cons_zero, List.set_cons_succ]
        refine wpAnyH_ready (rs := [12]) (by kernel_rfl) (by simp) ?_
        refine AllReadyH.cons (by simp only [List.getElem?_toArray, List.getElem?_cons_succ, List.getElem?_cons_zero]; first | done | rfl) (fun K hK => ?_) ?_
        · go_simp
          go_at_call 30
          refine (num_own (u64 h.ct) _ (u64_bd _).1 (u64_bd _).2).mono ?_
          rintro e v2 ⟨u2, rfl, hu2, hb2⟩
          obtain ⟨b2, c2, rfl⟩ := hu2.rd.shape
          have HU3 := Lib.hid hu2.rd
          clear hu2
          have HH' := Lib.hid (HA.below (by repeat (first | exact HH.out | apply HA.drew | apply HA.drewN | apply HA.alloc)) hb2)
          have HB' := Lib.hid (bl_bl (by repeat (first | exact HB.out | apply bl_drew | apply bl_drewN | apply bl_alloc)) hb2)
          have HL' := Lib.hid (Rd.below (by repeat (first | exact HL.out | apply rd_drew | apply rd_drewN | apply rd_alloc)) hb2)
          have HU1' := Lib.hid (Rd.below (by repeat (first | exact HU1.out | apply rd_drew | apply rd_drewN | apply rd_alloc)) hb2)
          have HU2' := Lib.hid (Rd.below (by repeat (first | exact HU2.out | apply rd_drew | apply rd_drewN | apply rd_alloc)) hb2)
          clear hb2
          have HH := HH'
          have HB := HB'
          have HL := HL'
          have HU1 := HU1'
          have HU2 := HU2'
          clear HH' HB' HL' HU1' HU2'
          refine hK.out _ _ ?_ (fun hHeld => ?_)
          · (try dsimp only); (refine HA.cells3 ?_; repeat (first | exact HH.out | apply HA.drew | apply HA.drewN | apply HA.alloc))
          clear hK K
          try simp only [Act.put, List.setIfInBounds_toArray, List.set_cons_zero, List.set_cons_succ]
          refine wpAnyH_ready (rs := [17]) (by kernel_rfl) (by simp) ?_
          refine AllReadyH.cons (by simp only [List.getElem?_toArray, List.getElem?_cons_succ, List.getElem?_cons_zero]; first | done | rfl) (fun K hK => ?_) ?_
          · go_simp
            refine k_world (fun W' => Below v2.heap.size v2 W' ∧ RdL W' (.slice (some ⟨_, 0, none⟩) 6 6) [[byt 72], numB (u64 h.ep), numB (u64 h.tk), numB (u64 h.ct), h.root, h.log]) ⟨(by repeat (first | exact Below.refl _ _ | apply bl_drew | apply bl_drewN | apply bl_alloc)), rdl_six _ _ (by repeat (first | exact HL.out | apply rd_drew | apply rd_drewN | apply rd_alloc)) (by repeat (first | exact HU1.out | apply rd_drew | apply rd_drewN | apply rd_alloc)) (by repeat (first | exact HU2.out | apply rd_drew | apply rd_drewN | apply rd_alloc)) (by repeat (first | exact HU3.out | apply rd_drew | apply rd_drewN | apply rd_alloc)) (HA.rdRoot (by repeat (first | exact HH.out | apply HA.drew | apply HA.drewN | apply HA.alloc)) ok) (HA.rdLog (by repeat (first | exact HH.out | apply HA.drew | apply HA.drewN | apply HA.alloc)) ok)⟩ ?_
            rintro v2 ⟨hb2, hl⟩
            have HRL := Lib.hid hl
            clear hl
            have HH' := Lib.hid (HA.below (by repeat (first | exact HH.out | apply HA.drew | apply HA.drewN | apply HA.alloc)) hb2)
            have HB' := Lib.hid (bl_bl (by repeat (first | exact HB.out | apply bl_drew | apply bl_drewN | apply bl_alloc)) hb2)
            have HL' := Lib.hid (Rd.below (by repeat (first | exact HL.out | apply rd_drew | apply rd_drewN | apply rd_alloc)) hb2)
            have HU1' := Lib.hid (Rd.below (by repeat (first | exact HU1.out | apply rd_drew | apply rd_drewN | apply rd_alloc)) hb2)
            have HU2' := Lib.hid (Rd.below (by repeat (first | exact HU2.out | apply rd_drew | apply rd_drewN | apply rd_alloc)) hb2)
            have HU3' := Lib.hid (Rd.below (by repeat (first | exact HU3.out | apply rd_drew | apply rd_drewN | apply rd_alloc)) hb2)
            clear hb2
            have HH := HH'
            have HB := HB'
            have HL := HL'
            have HU1 := HU1'
            have HU2 := HU2'
            have HU3 := HU3'
            clear HH' HB' HL' HU1' HU2' HU3'
            refine hK.out _ _ ?_ (fun hHeld => ?_)
            · (try dsimp only); (refine HA.cells3 ?_; repeat (first | exact HH.out | apply HA.drew | apply HA.drewN | apply HA.alloc))
            clear hK K
            try simp only [Act.put, List.setIfInBounds_toArray, List.set_cons_zero, List.set_cons_succ]
            refine wpAnyH_ready (rs := [18]) (by kernel_rfl) (by simp) ?_
            refine AllReadyH.cons (by simp only [List.getElem?_toArray, List.getElem?_cons_succ, List.getElem?_cons_zero]; first | done | rfl) (fun K hK => ?_) ?_
            · go_simp
              go_at_call 28
              refine (join_any _ [[byt 72], numB (u64 h.ep), numB (u64 h.tk), numB (u64 h.ct), h.root, h.log] _ HRL.out (by simp [totalLen, numB_length, ok.root, ok.log]) (by simp)).mono ?_
              rintro e v2 ⟨u2, rfl, hu2, hb2⟩
              rw [HF.out] at hu2
              obtain ⟨b2, c2, rfl⟩ := hu2.rd.shape
              have HO := Lib.hid (hu2.mono (Below.size (by repeat (first | exact HB.out | apply bl_drew | apply bl_drewN | apply bl_alloc))))
              clear hu2
              have HH' := Lib.hid (HA.below (by repeat (first | exact HH.out | apply HA.drew | apply HA.drewN | apply HA.alloc)) hb2)
              have HB' := Lib.hid (bl_bl (by repeat (first | exact HB.out | apply bl_drew | apply bl_drewN | apply bl_alloc)) hb2)
              clear hb2
              have HH := HH'
              have HB := HB'
              clear HH' HB'
              refine hK.out _ _ ?_ (fun hHeld => ?_)
              · (try dsimp only); (refine HA.cells3 ?_; repeat (first | exact HH.out | apply HA.drew | apply HA.drewN | apply HA.alloc))
              clear hK K
              try simp only [Act.put, List.setIfInBounds_toArray, List.set_cons_zero, List.set_cons_succ]
              refine wpAnyH_take (i := 19) (v := ?_) (by simp only [List.getElem?_toArray, List.getElem?_cons_succ, List.getElem?_cons_zero]; first | done | rfl) (by kernel_rfl) (by kernel_rfl) (by kernel_rfl) (fun _ _ _ h => h) (Or.inl ⟨by rfl, ?hy⟩) (by assumption) ?_
              case hy => (intro w hSw; (try dsimp only at hSw); go_simp; all_goals with_reducible rfl)
              try simp only [Act.put, List.setIfInBounds_toArray, List.set_cons_zero, List.set_cons_succ]
              refine wpAnyH_done (by kernel_rfl) ?_ _
              refine NoPanic.normal ?_
              go_wp2_with fail
              go_ret
              exact ⟨_, rfl, HO.out, HB.out⟩
            exact AllReadyH.nil
          exact AllReadyH.nil
        exact AllReadyH.nil
      exact AllReadyH.nil
    refine AllReadyH.cons (by simp only [List.getElem?_toArray, List.getElem?_cons_succ, List.getElem?_cons_zero]; first | done | rfl) (fun K hK => ?_) ?_
    · go_simp
      go_at_call 30
      refine (num_own (u64 h.tk) _ (u64_bd _).1 (u64_bd _).2).mono ?_
      rintro e v2 ⟨u2, rfl, hu2, hb2⟩
      obtain ⟨b2, c2, rfl⟩ := hu2.rd.shape
      have HU2 := Lib.hid hu2.rd
      clear hu2
      have HH' := Lib.hid (HA.below (by repeat (first | exact HH.out | apply HA.drew | apply HA.drewN | apply HA.alloc)) hb2)
      have HB' := Lib.hid (bl_bl (by repeat (first | exact HB.out | apply bl_drew | apply bl_drewN | apply bl_alloc)) hb2)
      have HU1' := Lib.hid (Rd.below (by repeat (first | exact HU1.out | apply rd_drew | apply rd_drewN | apply rd_alloc)) hb2)
      clear hb2
      have HH := HH'
      have HB := HB'
      have HU1 := HU1'
      clear HH' HB' HU1'
      refine hK.out _ _ ?_ (fun hHeld => ?_)
      · (try dsimp only); (refine HA.cells3 ?_; repeat (first | exact HH.out | apply HA.drew | apply HA.drewN | apply HA.alloc))
      clear hK K
      try simp only [Act.put, List.setIfInBounds_toArray, List.set_cons_zero, List.set_cons_succ]
      refine wpAnyH_ready (rs := [0, 12]) (by kernel_rfl) (by simp) ?_
      refine AllReadyH.cons (by simp only [List.getElem?_toArray, List.getElem?_cons_succ, List.getElem?_cons_zero]; first | done | rfl) (fun K hK => ?_) ?_
      · go_simp
        refine k_world (fun W' => Below v2.heap.size v2 W' ∧ Rd W' (.slice (some ⟨_, 0, none⟩) 1 1) [byt 72]) ⟨(by repeat (first | exact Below.refl _ _ | apply bl_drew | apply bl_drewN | apply bl_alloc)), (by first | exact rd_one _ 72 (by omega) (by omega) | exact rd_drew (rd_one _ 72 (by omega) (by omega)))⟩ ?_
        rintro v2 ⟨hb2, hl⟩
        have HL := Lib.hid hl
        clear hl
        have HH' := Lib.hid (HA.below (by repeat (first | exact HH.out | apply HA.drew | apply HA.drewN | apply HA.alloc)) hb2)
        have HB' := Lib.hid (bl_bl (by repeat (first | exact HB.out | apply bl_drew | apply bl_drewN | apply bl_alloc)) hb2)
        have HU1' := Lib.hid (Rd.below (by repeat (first | exact HU1.out | apply rd_drew | apply rd_drewN | apply rd_alloc)) hb2)
        have HU2' := Lib.hid (Rd.below (by repeat (first | exact HU2.out | apply rd_drew | apply rd_drewN | apply rd_alloc)) hb2)
        clear hb2
        have HH := HH'
        have HB := HB'
        have HU1 := HU1'
        have HU2 := HU2'
        clear HH' HB' HU1' HU2'
        refine hK.out _ _ ?_ (fun hHeld => ?_)
        · (try dsimp only); (refine HA.cells3 ?_; repeat (first | exact HH.out | apply HA.drew | apply HA.drewN | apply HA.alloc))
        clear hK K
        try simp only [Act.put, List.setIfInBounds_toArray, List.set_cons_zero, List.set_cons_succ]
        refine wpAnyH_ready (rs := [12]) (by kernel_rfl) (by simp) ?_
        refine AllReadyH.cons (by simp only [List.getElem?_toArray, List.getElem?_cons_succ, List.getElem?_cons_zero]; first | done | rfl) (fun K hK => ?_) ?_
        · go_simp
          go_at_call 30
          refine (num_own (u64 h.ct) _ (u64_bd _).1 (u64_bd _).2).mono ?_
          rintro e v2 ⟨u2, rfl, hu2, hb2⟩
          obtain ⟨b2, c2, rfl⟩ := hu2.rd.shape
          have HU3 := Lib.hid hu2.rd
          clear hu2
          have HH' := Lib.hid (HA.below (by repeat (first | exact HH.out | apply HA.drew | apply HA.drewN | apply HA.alloc)) hb2)
          have HB' := Lib.hid (bl_bl (by repeat (first | exact HB.out | apply bl_drew | apply bl_drewN | apply bl_alloc)) hb2)
          have HL' := Lib.hid (Rd.below (by repeat (first | exact HL.out | apply rd_drew | apply rd_drewN | apply rd_alloc)) hb2)
          have HU1' := Lib.hid (Rd.below (by repeat (first | exact HU1.out | apply rd_drew | apply rd_drewN | apply rd_alloc)) hb2)
          have HU2' := Lib.hid (Rd.below (by repeat (first | exact HU2.out | apply rd_drew | apply rd_drewN | apply rd_alloc)) hb2)
          clear hb2
          have HH := HH'
          have HB := HB'
          have HL := HL'
          have HU1 := HU1'
          have HU2 := HU2'
          clear HH' HB' HL' HU1' HU2'
          refine hK.out _ _ ?_ (fun hHeld => ?_)
          · (try dsimp only); (refine HA.cells3 ?_; repeat (first | exact HH.out | apply HA.drew | apply HA.drewN | apply HA.alloc))
          clear hK K
          try simp only [Act.put, List.setIfInBounds_toArray, List.set_cons_zero, List.set_cons_succ]
          refine wpAnyH_ready (rs := [17]) (by kernel_rfl) (by simp) ?_
          refine AllReadyH.cons (by simp only [List.getElem?_toArray, List.getElem?_cons_succ, List.getElem?_cons_zero]; first | done | rfl) (fun K hK => ?_) ?_
          · go_simp
            refine k_world (fun W' => Below v2.heap.size v2 W' ∧ RdL W' (.slice (some ⟨_, 0, none⟩) 6 6) [[byt 72], numB (u64 h.ep), numB (u64 h.tk), numB (u64 h.ct), h.root, h.log]) ⟨(by repeat (first | exact Below.refl _ _ | apply bl_drew | apply bl_drewN | apply bl_alloc)), rdl_six _ _ (by repeat (first | exact HL.out | apply rd_drew | apply rd_drewN | apply rd_alloc)) (by repeat (first | exact HU1.out | apply rd_drew | apply rd_drewN | apply rd_alloc)) (by repeat (first | exact HU2.out | apply rd_drew | apply rd_drewN | apply rd_alloc)) (by repeat (first | exact HU3.out | apply rd_drew | apply rd_drewN | apply rd_alloc)) (HA.rdRoot (by repeat (first | exact HH.out | apply HA.drew | apply HA.drewN | apply HA.alloc)) ok) (HA.rdLog (by repeat (first | exact HH.out | apply HA.drew | apply HA.drewN | apply HA.alloc)) ok)⟩ ?_
            rintro v2 ⟨hb2, hl⟩
            have HRL := Lib.hid hl
            clear hl
            have HH' := Lib.hid (HA.below (by repeat (first | exact HH.out | apply HA.drew | apply HA.drewN | apply HA.alloc)) hb2)
            have HB' := Lib.hid (bl_bl (by repeat (first | exact HB.out | apply bl_drew | apply bl_drewN | apply bl_alloc)) hb2)
            have HL' := Lib.hid (Rd.below (by repeat (first | exact HL.out | apply rd_drew | apply rd_drewN | apply rd_alloc)) hb2)
            have HU1' := Lib.hid (Rd.below (by repeat (first | exact HU1.out | apply rd_drew | apply rd_drewN | apply rd_alloc)) hb2)
            have HU2' := Lib.hid (Rd.below (by repeat (first | exact HU2.out | apply rd_drew | apply rd_drewN | apply rd_alloc)) hb2)
            have HU3' := Lib.hid (Rd.below (by repeat (first | exact HU3.out | apply rd_drew | apply rd_drewN | apply rd_alloc)) hb2)
            clear hb2
            have HH := HH'
            have HB := HB'
            have HL := HL'
            have HU1 := HU1'
            have HU2 := HU2'
            have HU3 := HU3'
            clear HH' HB' HL' HU1' HU2' HU3'
            refine hK.out _ _ ?_ (fun hHeld => ?_)
            · (try dsimp only); (refine HA.cells3 ?_; repeat (first | exact HH.out | apply HA.drew | apply HA.drewN | apply HA.alloc))
            clear hK K
            try simp only [Act.put, List.setIfInBounds_toArray, List.set_cons_zero, List.set_cons_succ]
            refine wpAnyH_ready (rs := [18]) (by kernel_rfl) (by simp) ?_
            refine AllReadyH.cons (by simp only [List.getElem?_toArray, List.getElem?_cons_succ, List.getElem?_cons_zero]; first | done | rfl) (fun K hK => ?_) ?_
            · go_simp
              go_at_call 28
              refine (join_any _ [[byt 72], numB (u64 h.ep), numB (u64 h.tk), numB (u64 h.ct), h.root, h.log] _ HRL.out (by simp [totalLen, numB_length, ok.root, ok.log]) (by simp)).mono ?_
              rintro e v2 ⟨u2, rfl, hu2, hb2⟩
              rw [HF.out] at hu2
              obtain ⟨b2, c2, rfl⟩ := hu2.rd.shape
              have HO := Lib.hid (hu2.mono (Below.size (by repeat (first | exact HB.out | apply bl_drew | apply bl_drewN | apply bl_alloc))))
              clear hu2
              have HH' := Lib.hid (HA.below (by repeat (first | exact HH.out | apply HA.drew | apply HA.drewN | apply HA.alloc)) hb2)
              have HB' := Lib.hid (bl_bl (by repeat (first | exact HB.out | apply bl_drew | apply bl_drewN | apply bl_alloc)) hb2)
              clear hb2
              have HH := HH'
              have HB := HB'
              clear HH' HB'
              refine hK.out _ _ ?_ (fun hHeld => ?_)
              · (try dsimp only); (refine HA.cells3 ?_; repeat (first | exact HH.out | apply HA.drew | apply HA.drewN | apply HA.alloc))
              clear hK K
              try simp only [Act.put, List.setIfInBounds_toArray, List.set_cons_zero, List.set_cons_succ]
              refine wpAnyH_take (i := 19) (v := ?_) (by simp only [List.getElem?_toArray, List.getElem?_cons_succ, List.getElem?_cons_zero]; first | done | rfl) (by kernel_rfl) (by kernel_rfl) (by kernel_rfl) (fun _ _ _ h => h) (Or.inl ⟨by rfl, ?hy⟩) (by assumption) ?_
              case hy => (intro w hSw; (try dsimp only at hSw); go_simp; all_goals with_reducible rfl)
              try simp only [Act.put, List.setIfInBounds_toArray, List.set_cons_zero, List.set_cons_succ]
              refine wpAnyH_done (by kernel_rfl) ?_ _
              refine NoPanic.normal ?_
              go_wp2_with fail
              go_ret
              exact ⟨_, rfl, HO.out, HB.out⟩
            exact AllReadyH.nil
          exact AllReadyH.nil
        exact AllReadyH.nil
      refine AllReadyH.cons (by simp only [List.getElem?_toArray, List.getElem?_cons_succ, List.getElem?_cons_zero]; first | done | rfl) (fun K hK => ?_) ?_
      · go_simp
        go_at_call 30
        refine (num_own (u64 h.ct) _ (u64_bd _).1 (u64_bd _).2).mono ?_
        rintro e v2 ⟨u2, rfl, hu2, hb2⟩
        obtain ⟨b2, c2, rfl⟩ := hu2.rd.shape
        have HU3 := Lib.hid hu2.rd
        clear hu2
        have HH' := Lib.hid (HA.below (by repeat (first | exact HH.out | apply HA.drew | apply HA.drewN | apply HA.alloc)) hb2)
        have HB' := Lib.hid (bl_bl (by repeat (first | exact HB.out | apply bl_drew | apply bl_drewN | apply bl_alloc)) hb2)
        have HU1' := Lib.hid (Rd.below (by repeat (first | exact HU1.out | apply rd_drew | apply rd_drewN | apply rd_alloc)) hb2)
        have HU2' := Lib.hid (Rd.below (by repeat (first | exact HU2.out | apply rd_drew | apply rd_drewN | apply rd_alloc)) hb2)
        clear hb2
        have HH := HH'
        have HB := HB'
        have HU1 := HU1'
        have HU2 := HU2'
        clear HH' HB' HU1' HU2'
        refine hK.out _ _ ?_ (fun hHeld => ?_)
        · (try dsimp only); (refine HA.cells3 ?_; repeat (first | exact HH.out | apply HA.drew | apply HA.drewN | apply HA.alloc))
        clear hK K
        try simp only [Act.put, List.setIfInBounds_toArray, List.set_cons_zero, List.set_cons_succ]
        refine wpAnyH_ready (rs := [0]) (by kernel_rfl) (by simp) ?_
        refine AllReadyH.cons (by simp only [List.getElem?_toArray, List.getElem?_cons_succ, List.getElem?_cons_zero]; first | done | rfl) (fun K hK => ?_) ?_
        · go_simp
          refine k_world (fun W' => Below v2.heap.size v2 W' ∧ Rd W' (.slice (some ⟨_, 0, none⟩) 1 1) [byt 72]) ⟨(by repeat (first | exact Below.refl _ _ | apply bl_drew | apply bl_drewN | apply bl_alloc)), (by first | exact rd_one _ 72 (by omega) (by omega) | exact rd_drew (rd_one _ 72 (by omega) (by omega)))⟩ ?_
          rintro v2 ⟨hb2, hl⟩
          have HL := Lib.hid hl
          clear hl
          have HH' := Lib.hid (HA.below (by repeat (first | exact HH.out | apply HA.drew | apply HA.drewN | apply HA.alloc)) hb2)
          have HB' := Lib.hid (bl_bl (by repeat (first | exact HB.out | apply bl_drew | apply bl_drewN | apply bl_alloc)) hb2)
          have HU1' := Lib.hid (Rd.below (by repeat (first | exact HU1.out | apply rd_drew | apply rd_drewN | apply rd_alloc)) hb2)
          have HU2' := Lib.hid (Rd.below (by repeat (first | exact HU2.out | apply rd_drew | apply rd_drewN | apply rd_alloc)) hb2)
          have HU3' := Lib.hid (Rd.below (by repeat (first | exact HU3.out | apply rd_drew | apply rd_drewN | apply rd_alloc)) hb2)
          clear hb2
          have HH := HH'
          have HB := HB'
          have HU1 := HU1'
          have HU2 := HU2'
          have HU3 := HU3'
          clear HH' HB' HU1' HU2' HU3'
          refine hK.out _ _ ?_ (fun hHeld => ?_)
          · (try dsimp only); (refine HA.cells3 ?_; repeat (first | exact HH.out | apply HA.drew | apply HA.drewN | apply HA.alloc))
          clear hK K
          try simp only [Act.put, List.setIfInBounds_toArray, List.set_cons_zero, List.set_cons_succ]
          refine wpAnyH_ready (rs := [17]) (by kernel_rfl) (by simp) ?_
          refine AllReadyH.cons (by simp only [List.getElem?_toArray, List.getElem?_cons_succ, List.getElem?_cons_zero]; first | done | rfl) (fun K hK => ?_) ?_
          · go_simp
            refine k_world (fun W' => Below v2.heap.size v2 W' ∧ RdL W' (.slice (some ⟨_, 0, none⟩) 6 6) [[byt 72], numB (u64 h.ep), numB (u64 h.tk), numB (u64 h.ct), h.root, h.log]) ⟨(by repeat (first | exact Below.refl _ _ | apply bl_drew | apply bl_drewN | apply bl_alloc)), rdl_six _ _ (by repeat (first | exact HL.out | apply rd_drew | apply rd_drewN | apply rd_alloc)) (by repeat (first | exact HU1.out | apply rd_drew | apply rd_drewN | apply rd_alloc)) (by repeat (first | exact HU2.out | apply rd_drew | apply rd_drewN | apply rd_alloc)) (by repeat (first | exact HU3.out | apply rd_drew | apply rd_drewN | apply rd_alloc)) (HA.rdRoot (by repeat (first | exact HH.out | apply HA.drew | apply HA.drewN | apply HA.alloc)) ok) (HA.rdLog (by repeat (first | exact HH.out | apply HA.drew | apply HA.drewN | apply HA.alloc)) ok)⟩ ?_
            rintro v2 ⟨hb2, hl⟩
            have HRL := Lib.hid hl
            clear hl
            have HH' := Lib.hid (HA.below (by repeat (first | exact HH.out | apply HA.drew | apply HA.drewN | apply HA.alloc)) hb2)
            have HB' := Lib.hid (bl_bl (by repeat (first | exact HB.out | apply bl_drew | apply bl_drewN | apply bl_alloc)) hb2)
            have HL' := Lib.hid (Rd.below (by repeat (first | exact HL.out | apply rd_drew | apply rd_drewN | apply rd_alloc)) hb2)
            have HU1' := Lib.hid (Rd.below (by repeat (first | exact HU1.out | apply rd_drew | apply rd_drewN | apply rd_alloc)) hb2)
            have HU2' := Lib.hid (Rd.below (by repeat (first | exact HU2.out | apply rd_drew | apply rd_drewN | apply rd_alloc)) hb2)
            have HU3' := Lib.hid (Rd.below (by repeat (first | exact HU3.out | apply rd_drew | apply rd_drewN | apply rd_alloc)) hb2)
            clear hb2
            have HH := HH'
            have HB := HB'
            have HL := HL'
            have HU1 := HU1'
            have HU2 := HU2'
            have HU3 := HU3'
            clear HH' HB' HL' HU1' HU2' HU3'
            refine hK.out _ _ ?_ (fun hHeld => ?_)
            · (try dsimp only); (refine HA.cells3 ?_; repeat (first | exact HH.out | apply HA.drew | apply HA.drewN | apply HA.alloc))
            clear hK K
            try simp only [Act.put, List.setIfInBounds_toArray, List.set_cons_zero, List.set_cons_succ]
            refine wpAnyH_ready (rs := [18]) (by kernel_rfl) (by simp) ?_
            refine AllReadyH.cons (by simp only [List.getElem?_toArray, List.getElem?_cons_succ, List.getElem?_cons_zero]; first | done | rfl) (fun K hK => ?_) ?_
            · go_simp
              go_at_call 28
              refine (join_any _ [[byt 72], numB (u64 h.ep), numB (u64 h.tk), numB (u64 h.ct), h.root, h.log] _ HRL.out (by simp [totalLen, numB_length, ok.root, ok.log]) (by simp)).mono ?_
              rintro e v2 ⟨u2, rfl, hu2, hb2⟩
              rw [HF.out] at hu2
              obtain ⟨b2, c2, rfl⟩ := hu2.rd.shape
              have HO := Lib.hid (hu2.mono (Below.size (by repeat (first | exact HB.out | apply bl_drew | apply bl_drewN | apply bl_alloc))))
              clear hu2
              have HH' := Lib.hid (HA.below (by repeat (first | exact HH.out | apply HA.drew | apply HA.drewN | apply HA.alloc)) hb2)
              have HB' := Lib.hid (bl_bl (by repeat (first | exact HB.out | apply bl_drew | apply bl_drewN | apply bl_alloc)) hb2)
              clear hb2
              have HH := HH'
              have HB := HB'
              clear HH' HB'
              refine hK.out _ _ ?_ (fun hHeld => ?_)
              · (try dsimp only); (refine HA.cells3 ?_; repeat (first | exact HH.out | apply HA.drew | apply HA.drewN | apply HA.alloc))
              clear hK K
              try simp only [Act.put, List.setIfInBounds_toArray, List.set_cons_zero, List.set_cons_succ]
              refine wpAnyH_take (i := 19) (v := ?_) (by simp only [List.getElem?_toArray, List.getElem?_cons_succ, List.getElem?_cons_zero]; first | done | rfl) (by kernel_rfl) (by kernel_rfl) (by kernel_rfl) (fun _ _ _ h => h) (Or.inl ⟨by rfl, ?hy⟩) (by assumption) ?_
              case hy => (intro w hSw; (try dsimp only at hSw); go_simp; all_goals with_reducible rfl)
              try simp only [Act.put, List.setIfInBounds_toArray, List.set_cons_zero, List.set_cons_succ]
              refine wpAnyH_done (by kernel_rfl) ?_ _
              refine NoPanic.normal ?_
              go_wp2_with fail
              go_ret
              exact ⟨_, rfl, HO.out, HB.out⟩
            exact AllReadyH.nil
          exact AllReadyH.nil
        exact AllReadyH.nil
      exact AllReadyH.nil
    exact AllReadyH.nil
  exact AllReadyH.nil
end Go.Proofs.Yteapoemockimfaa
