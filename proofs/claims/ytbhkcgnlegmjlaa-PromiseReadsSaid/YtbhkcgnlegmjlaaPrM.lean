/-
  Promises: Message, Check, Put, the program's.
-/
import Derived.Test.YtbhkcgnlegmjlaaPrR
namespace Go.Proofs.Ytbhkcgnlegmjlaa
set_option linter.unusedVariables false
set_option linter.unusedSimpArgs false
open Go.RowKit
attribute [local irreducible] checkF putF

theorem run_build_op' {a : Act} {o : Oper} {w : World} {t : TypeId} {n : Nat} {parts : Array (Nat × Operand)} {vals : Array (Nat × Value)} {v : Value} {w' : World} (ho : o.op = .buildSlice t n parts) (hv : parts.map (fun (i, x) => (i, a.eval x)) = vals) (h : (Instr.buildSlice t n vals).run Try.prog w = .ok v w') : (execOp a.eval o).run Try.prog w = .ok (.value v) w' := by
  unfold execOp
  simp only [ho, hv, Sem.run_bind, h, Result.andThen_ok, Sem.run_pure]
theorem run_build_letter (x : Int) (w : World) : (Instr.buildSlice 22 1 #[(0, .int .u8 x)]).run Try.prog w = .ok (.slice (some ⟨w.heap.size, 0, none⟩) 1 1) (w.alloc (.cells #[.int .u8 x] 5)) := by kernel_rfl
set_option maxRecDepth 100000 in
set_option maxHeartbeats 32000000 in
theorem msgP_any (p : Pr) (w : World) (ok : p.ok) : Calls Try.prog 33 #[prV p] w (GivesOwn w (msgP p)) := by
  show Calls _ _ #[.agg p.cells.toArray] w _
  have HLN := Lib.hid (show p.nm.length ≤ 1099511627776 by have := ok.nm; omega)
  have OK := Lib.hid ok
  have HF := Lib.hid (show [[byt 80], lumpB p.nm, numB (u64 p.ver), numB p.key, numB (u64 p.tk), numB (u64 p.dl)].flatten = msgP p by simp [msgP, fieldsE])
  clear ok
  go_enter Try.func33, Try.ntmps33
  go_upto_region 1 with fail
  refine wp_world (fun W => PA w.heap.size p W ∧ Below w.heap.size w W) ⟨PA.new _ _, bl_alloc (Below.refl _ _) _⟩ ?_
  rintro W ⟨hA, hB⟩
  have HH := Lib.hid hA
  have HB := Lib.hid hB
  clear hA hB
  go_upto_region 2 with (first
    | refine wpList_load_mid rfl 27 (.tmp 4) rfl w.heap.size 0 rfl (entCells p.nm p.ver p.key) _ HH.out.entry Try.underlying27 rfl (by rw [ent_size p.nm p.ver p.key, List.size_toArray]) ?_
    | refine wpList_store_row rfl 27 (.tmp 3) (.tmp 5) rfl W.heap.size (entCells p.nm p.ver p.key).toArray rfl rfl 27 _ (heap_alloc_new _ _) (ent_size _ _ _) rfl (all_oneCell_toArray (entCells_one _ _ _)) ?_)
  refine wp_world (fun Y => PA w.heap.size p Y ∧ EA W.heap.size p.nm p.ver p.key Y ∧ Below w.heap.size w Y) ⟨HH.out.below (below_fresh _ _ _), ⟨setRow_heap _ _ _ _ _ _ (heap_alloc_new _ _)⟩, bl_bl HB.out (below_fresh _ _ _)⟩ ?_
  generalize W.heap.size = g3
  clear HH HB W
  rintro W ⟨hA, hE, hB⟩
  have HH := Lib.hid hA
  have HE := Lib.hid hE
  have HB := Lib.hid hB
  clear hA hE hB
  (try simp only [Act.put, List.setIfInBounds_toArray, List.set_cons_zero, List.set_cons_succ])
  refine wp_region_noPanic ?_
  refine wp_region_held_drew (S := (fun w' => PA w.heap.size p w' ∧ EA g3 p.nm p.ver p.key w')) (by kernel_rfl) ?_ (fun hHeld => ?_)
  · (try dsimp only); (refine ⟨?_, ?_⟩ <;> repeat (first | exact HH.out | exact HE.out | apply PA.drew | apply PA.drewN | apply PA.alloc | apply EA.drew | apply EA.drewN | apply EA.alloc))
  refine wpAnyH_take (i := 1) (v := ?_) (by simp only [List.getElem?_toArray, List.getElem?_cons_succ, List.getElem?_cons_zero]; first | done | rfl) (by kernel_rfl) (by kernel_rfl) (by kernel_rfl) (fun _ _ _ h => h) (Or.inl ⟨by rfl, ?hy⟩) (by assumption) ?_
  case hy => (intro w hSw; (try dsimp only at hSw); have c3 := hSw.1.c3; have c4 := hSw.1.c4; have c0 := hSw.2.c0; have c1 := hSw.2.c1; have c2 := hSw.2.c2; go_simp; all_goals with_reducible rfl)
  try simp only [Act.put, List.setIfInBounds_toArray, List.set_cons_zero, List.set_cons_succ]
  refine wpAnyH_take (i := 2) (v := ?_) (by simp only [List.getElem?_toArray, List.getElem?_cons_succ, List.getElem?_cons_zero]; first | done | rfl) (by kernel_rfl) (by kernel_rfl) (by kernel_rfl) (fun _ _ _ h => h) (Or.inl ⟨by rfl, ?hy⟩) (by assumption) ?_
  case hy => (intro w hSw; (try dsimp only at hSw); have c3 := hSw.1.c3; have c4 := hSw.1.c4; have c0 := hSw.2.c0; have c1 := hSw.2.c1; have c2 := hSw.2.c2; go_simp; all_goals with_reducible rfl)
  try simp only [Act.put, List.setIfInBounds_toArray, List.set_cons_zero, List.set_cons_succ]
  refine wpAnyH_take (i := 5) (v := ?_) (by simp only [List.getElem?_toArray, List.getElem?_cons_succ, List.getElem?_cons_zero]; first | done | rfl) (by kernel_rfl) (by kernel_rfl) (by kernel_rfl) (fun _ _ _ h => h) (Or.inl ⟨by rfl, ?hy⟩) (by assumption) ?_
  case hy => (intro w hSw; (try dsimp only at hSw); have c3 := hSw.1.c3; have c4 := hSw.1.c4; have c0 := hSw.2.c0; have c1 := hSw.2.c1; have c2 := hSw.2.c2; go_simp; all_goals with_reducible rfl)
  try simp only [Act.put, List.setIfInBounds_toArray, List.set_cons_zero, List.set_cons_succ]
  refine wpAnyH_take (i := 6) (v := ?_) (by simp only [List.getElem?_toArray, List.getElem?_cons_succ, List.getElem?_cons_zero]; first | done | rfl) (by kernel_rfl) (by kernel_rfl) (by kernel_rfl) (fun _ _ _ h => h) (Or.inl ⟨by rfl, ?hy⟩) (by assumption) ?_
  case hy => (intro w hSw; (try dsimp only at hSw); have c3 := hSw.1.c3; have c4 := hSw.1.c4; have c0 := hSw.2.c0; have c1 := hSw.2.c1; have c2 := hSw.2.c2; go_simp; all_goals with_reducible rfl)
  try simp only [Act.put, List.setIfInBounds_toArray, List.set_cons_zero, List.set_cons_succ]
  refine wpAnyH_take (i := 7) (v := ?_) (by simp only [List.getElem?_toArray, List.getElem?_cons_succ, List.getElem?_cons_zero]; first | done | rfl) (by kernel_rfl) (by kernel_rfl) (by kernel_rfl) (fun _ _ _ h => h) (Or.inl ⟨by rfl, ?hy⟩) (by assumption) ?_
  case hy => (intro w hSw; (try dsimp only at hSw); have c3 := hSw.1.c3; have c4 := hSw.1.c4; have c0 := hSw.2.c0; have c1 := hSw.2.c1; have c2 := hSw.2.c2; go_simp; all_goals with_reducible rfl)
  try simp only [Act.put, List.setIfInBounds_toArray, List.set_cons_zero, List.set_cons_succ]
  refine wpAnyH_take (i := 9) (v := ?_) (by simp only [List.getElem?_toArray, List.getElem?_cons_succ, List.getElem?_cons_zero]; first | done | rfl) (by kernel_rfl) (by kernel_rfl) (by kernel_rfl) (fun _ _ _ h => h) (Or.inl ⟨by rfl, ?hy⟩) (by assumption) ?_
  case hy => (intro w hSw; (try dsimp only at hSw); have c3 := hSw.1.c3; have c4 := hSw.1.c4; have c0 := hSw.2.c0; have c1 := hSw.2.c1; have c2 := hSw.2.c2; go_simp; all_goals with_reducible rfl)
  try simp only [Act.put, List.setIfInBounds_toArray, List.set_cons_zero, List.set_cons_succ]
  refine wpAnyH_take (i := 10) (v := ?_) (by simp only [List.getElem?_toArray, List.getElem?_cons_succ, List.getElem?_cons_zero]; first | done | rfl) (by kernel_rfl) (by kernel_rfl) (by kernel_rfl) (fun _ _ _ h => h) (Or.inl ⟨by rfl, ?hy⟩) (by assumption) ?_
  case hy => (intro w hSw; (try dsimp only at hSw); have c3 := hSw.1.c3; have c4 := hSw.1.c4; have c0 := hSw.2.c0; have c1 := hSw.2.c1; have c2 := hSw.2.c2; go_simp; all_goals with_reducible rfl)
  try simp only [Act.put, List.setIfInBounds_toArray, List.set_cons_zero, List.set_cons_succ]
  refine wpAnyH_take (i := 12) (v := ?_) (by simp only [List.getElem?_toArray, List.getElem?_cons_succ, List.getElem?_cons_zero]; first | done | rfl) (by kernel_rfl) (by kernel_rfl) (by kernel_rfl) (fun _ _ _ h => h) (Or.inl ⟨by rfl, ?hy⟩) (by assumption) ?_
  case hy => (intro w hSw; (try dsimp only at hSw); have c3 := hSw.1.c3; have c4 := hSw.1.c4; have c0 := hSw.2.c0; have c1 := hSw.2.c1; have c2 := hSw.2.c2; go_simp; all_goals with_reducible rfl)
  try simp only [Act.put, List.setIfInBounds_toArray, List.set_cons_zero, List.set_cons_succ]
  refine wpAnyH_take (i := 13) (v := ?_) (by simp only [List.getElem?_toArray, List.getElem?_cons_succ, List.getElem?_cons_zero]; first | done | rfl) (by kernel_rfl) (by kernel_rfl) (by kernel_rfl) (fun _ _ _ h => h) (Or.inl ⟨by rfl, ?hy⟩) (by assumption) ?_
  case hy => (intro w hSw; (try dsimp only at hSw); have c3 := hSw.1.c3; have c4 := hSw.1.c4; have c0 := hSw.2.c0; have c1 := hSw.2.c1; have c2 := hSw.2.c2; go_simp; all_goals with_reducible rfl)
  try simp only [Act.put, List.setIfInBounds_toArray, List.set_cons_zero, List.set_cons_succ]
  refine wpAnyH_take (i := 14) (v := ?_) (by simp only [List.getElem?_toArray, List.getElem?_cons_succ, List.getElem?_cons_zero]; first | done | rfl) (by kernel_rfl) (by kernel_rfl) (by kernel_rfl) (fun _ _ _ h => h) (Or.inl ⟨by rfl, ?hy⟩) (by assumption) ?_
  case hy => (intro w hSw; (try dsimp only at hSw); have c3 := hSw.1.c3; have c4 := hSw.1.c4; have c0 := hSw.2.c0; have c1 := hSw.2.c1; have c2 := hSw.2.c2; go_simp; all_goals with_reducible rfl)
  try simp only [Act.put, List.setIfInBounds_toArray, List.set_cons_zero, List.set_cons_succ]
  refine wpAnyH_take (i := 16) (v := ?_) (by simp only [List.getElem?_toArray, List.getElem?_cons_succ, List.getElem?_cons_zero]; first | done | rfl) (by kernel_rfl) (by kernel_rfl) (by kernel_rfl) (fun _ _ _ h => h) (Or.inl ⟨by rfl, ?hy⟩) (by assumption) ?_
  case hy => (intro w hSw; (try dsimp only at hSw); have c3 := hSw.1.c3; have c4 := hSw.1.c4; have c0 := hSw.2.c0; have c1 := hSw.2.c1; have c2 := hSw.2.c2; go_simp; all_goals with_reducible rfl)
  try simp only [Act.put, List.setIfInBounds_toArray, List.set_cons_zero, List.set_cons_succ]
  refine wpAnyH_take (i := 17) (v := ?_) (by simp only [List.getElem?_toArray, List.getElem?_cons_succ, List.getElem?_cons_zero]; first | done | rfl) (by kernel_rfl) (by kernel_rfl) (by kernel_rfl) (fun _ _ _ h => h) (Or.inl ⟨by rfl, ?hy⟩) (by assumption) ?_
  case hy => (intro w hSw; (try dsimp only at hSw); have c3 := hSw.1.c3; have c4 := hSw.1.c4; have c0 := hSw.2.c0; have c1 := hSw.2.c1; have c2 := hSw.2.c2; go_simp; all_goals with_reducible rfl)
  try simp only [Act.put, List.setIfInBounds_toArray, List.set_cons_zero, List.set_cons_succ]
  refine wpAnyH_take (i := 18) (v := ?_) (by simp only [List.getElem?_toArray, List.getElem?_cons_succ, List.getElem?_cons_zero]; first | done | rfl) (by kernel_rfl) (by kernel_rfl) (by kernel_rfl) (fun _ _ _ h => h) (Or.inl ⟨by rfl, ?hy⟩) (by assumption) ?_
  case hy => (intro w hSw; (try dsimp only at hSw); have c3 := hSw.1.c3; have c4 := hSw.1.c4; have c0 := hSw.2.c0; have c1 := hSw.2.c1; have c2 := hSw.2.c2; go_simp; all_goals with_reducible rfl)
  try simp only [Act.put, List.setIfInBounds_toArray, List.set_cons_zero, List.set_cons_succ]
  refine wpAnyH_ready (rs := [0, 3]) (by kernel_rfl) (by simp) ?_
  refine AllReadyH.cons (by simp only [List.getElem?_toArray, List.getElem?_cons_succ, List.getElem?_cons_zero]; first | done | rfl) (fun K hK => ?_) ?_
  · skip
    refine step_value (by rfl) (run_build_op' (vals := #[(0, .int .u8 80)]) rfl (by simp only [List.map_toArray, List.map_cons, List.map_nil]; rfl) (run_build_letter 80 _)) ?_
    refine k_world (fun W' => Below W.heap.size W W' ∧ Rd W' (.slice (some ⟨_, 0, none⟩) 1 1) [byt 80]) ⟨(by repeat (first | exact Below.refl _ _ | apply bl_drew | apply bl_drewN | apply bl_alloc)), (by first | exact rd_one _ 80 (by omega) (by omega) | exact rd_drew (rd_one _ 80 (by omega) (by omega)))⟩ ?_
    rintro v2 ⟨hb2, hl⟩
    have HL := Lib.hid hl
    clear hl
    have HH' := Lib.hid (PA.below (by repeat (first | exact HH.out | apply PA.drew | apply PA.drewN | apply PA.alloc)) hb2)
    have HE' := Lib.hid (EA.below (by repeat (first | exact HE.out | apply EA.drew | apply EA.drewN | apply EA.alloc)) hb2)
    have HB' := Lib.hid (bl_bl (by repeat (first | exact HB.out | apply bl_drew | apply bl_drewN | apply bl_alloc)) hb2)
    clear hb2
    have HH := HH'
    have HE := HE'
    have HB := HB'
    clear HH' HE' HB'
    refine hK.out _ _ ?_ (fun hHeld => ?_)
    · (try dsimp only); (refine ⟨?_, ?_⟩ <;> repeat (first | exact HH.out | exact HE.out | apply PA.drew | apply PA.drewN | apply PA.alloc | apply EA.drew | apply EA.drewN | apply EA.alloc))
    clear hK K
    try simp only [Act.put, List.setIfInBounds_toArray, List.set_cons_zero, List.set_cons_succ]
    refine wpAnyH_ready (rs := [3]) (by kernel_rfl) (by simp) ?_
    refine AllReadyH.cons (by simp only [List.getElem?_toArray, List.getElem?_cons_succ, List.getElem?_cons_zero]; first | done | rfl) (fun K hK => ?_) ?_
    · skip
      refine step_conv_sb rfl (.tmp 8) rfl rfl HLN.out ?_
      intro u2 v2 hu2 hb2
      obtain ⟨b2, c2, rfl⟩ := hu2.shape
      have HC := Lib.hid hu2
      clear hu2
      have HH' := Lib.hid (PA.below (by repeat (first | exact HH.out | apply PA.drew | apply PA.drewN | apply PA.alloc)) hb2)
      have HE' := Lib.hid (EA.below (by repeat (first | exact HE.out | apply EA.drew | apply EA.drewN | apply EA.alloc)) hb2)
      have HB' := Lib.hid (bl_bl (by repeat (first | exact HB.out | apply bl_drew | apply bl_drewN | apply bl_alloc)) hb2)
      have HL' := Lib.hid (Rd.below (by repeat (first | exact HL.out | apply rd_drew | apply rd_drewN | apply rd_alloc)) hb2)
      clear hb2
      have HH := HH'
      have HE := HE'
      have HB := HB'
      have HL := HL'
      clear HH' HE' HB' HL'
      refine hK.out _ _ ?_ (fun hHeld => ?_)
      · (try dsimp only); (refine ⟨?_, ?_⟩ <;> repeat (first | exact HH.out | exact HE.out | apply PA.drew | apply PA.drewN | apply PA.alloc | apply EA.drew | apply EA.drewN | apply EA.alloc))
      clear hK K
      try simp only [Act.put, List.setIfInBounds_toArray, List.set_cons_zero, List.set_cons_succ]
      refine wpAnyH_ready (rs := [4]) (by kernel_rfl) (by simp) ?_
      refine AllReadyH.cons (by simp only [List.getElem?_toArray, List.getElem?_cons_succ, List.getElem?_cons_zero]; first | done | rfl) (fun K hK => ?_) ?_
      · skip
        refine step_call (by rfl) (lump_any _ p.nm _ (by repeat (first | exact HC.out | apply rd_drew | apply rd_drewN | apply rd_alloc)) (by have := OK.out.nm; omega)) (by go_simp; all_goals first | rfl | (simp only [IntKind.wrap_u64]; rfl)) ?_
        rintro e v2 ⟨u2, rfl, hu2, hb2⟩
        refine ⟨_, rfl, ?_⟩
        obtain ⟨b2, c2, rfl⟩ := hu2.rd.shape
        have HU1 := Lib.hid hu2.rd
        clear hu2
        have HH' := Lib.hid (PA.below (by repeat (first | exact HH.out | apply PA.drew | apply PA.drewN | apply PA.alloc)) hb2)
        have HE' := Lib.hid (EA.below (by repeat (first | exact HE.out | apply EA.drew | apply EA.drewN | apply EA.alloc)) hb2)
        have HB' := Lib.hid (bl_bl (by repeat (first | exact HB.out | apply bl_drew | apply bl_drewN | apply bl_alloc)) hb2)
        have HL' := Lib.hid (Rd.below (by repeat (first | exact HL.out | apply rd_drew | apply rd_drewN | apply rd_alloc)) hb2)
        have HC' := Lib.hid (Rd.below (by repeat (first | exact HC.out | apply rd_drew | apply rd_drewN | apply rd_alloc)) hb2)
        clear hb2
        have HH := HH'
        have HE := HE'
        have HB := HB'
        have HL := HL'
        have HC := HC'
        clear HH' HE' HB' HL' HC'
        refine hK.out _ _ ?_ (fun hHeld => ?_)
        · (try dsimp only); (refine ⟨?_, ?_⟩ <;> repeat (first | exact HH.out | exact HE.out | apply PA.drew | apply PA.drewN | apply PA.alloc | apply EA.drew | apply EA.drewN | apply EA.alloc))
        clear hK K
        try simp only [Act.put, List.setIfInBounds_toArray, List.set_cons_zero, List.set_cons_succ]
        refine wpAnyH_ready (rs := [8]) (by kernel_rfl) (by simp) ?_
        refine AllReadyH.cons (by simp only [List.getElem?_toArray, List.getElem?_cons_succ, List.getElem?_cons_zero]; first | done | rfl) (fun K hK => ?_) ?_
        · skip
          refine step_call (by rfl) (num_own (u64 p.ver) _ (u64_bd _).1 (u64_bd _).2) (by go_simp; all_goals first | rfl | (simp only [IntKind.wrap_u64]; rfl)) ?_
          rintro e v2 ⟨u2, rfl, hu2, hb2⟩
          refine ⟨_, rfl, ?_⟩
          obtain ⟨b2, c2, rfl⟩ := hu2.rd.shape
          have HU2 := Lib.hid hu2.rd
          clear hu2
          have HH' := Lib.hid (PA.below (by repeat (first | exact HH.out | apply PA.drew | apply PA.drewN | apply PA.alloc)) hb2)
          have HE' := Lib.hid (EA.below (by repeat (first | exact HE.out | apply EA.drew | apply EA.drewN | apply EA.alloc)) hb2)
          have HB' := Lib.hid (bl_bl (by repeat (first | exact HB.out | apply bl_drew | apply bl_drewN | apply bl_alloc)) hb2)
          have HL' := Lib.hid (Rd.below (by repeat (first | exact HL.out | apply rd_drew | apply rd_drewN | apply rd_alloc)) hb2)
          have HC' := Lib.hid (Rd.below (by repeat (first | exact HC.out | apply rd_drew | apply rd_drewN | apply rd_alloc)) hb2)
          have HU1' := Lib.hid (Rd.below (by repeat (first | exact HU1.out | apply rd_drew | apply rd_drewN | apply rd_alloc)) hb2)
          clear hb2
          have HH := HH'
          have HE := HE'
          have HB := HB'
          have HL := HL'
          have HC := HC'
          have HU1 := HU1'
          clear HH' HE' HB' HL' HC' HU1'
          refine hK.out _ _ ?_ (fun hHeld => ?_)
          · (try dsimp only); (refine ⟨?_, ?_⟩ <;> repeat (first | exact HH.out | exact HE.out | apply PA.drew | apply PA.drewN | apply PA.alloc | apply EA.drew | apply EA.drewN | apply EA.alloc))
          clear hK K
          try simp only [Act.put, List.setIfInBounds_toArray, List.set_cons_zero, List.set_cons_succ]
          refine wpAnyH_ready (rs := [11]) (by kernel_rfl) (by simp) ?_
          refine AllReadyH.cons (by simp only [List.getElem?_toArray, List.getElem?_cons_succ, List.getElem?_cons_zero]; first | done | rfl) (fun K hK => ?_) ?_
          · skip
            refine step_call (by rfl) (num_own p.key _ OK.out.key.1 OK.out.key.2) (by go_simp; all_goals first | rfl | (simp only [IntKind.wrap_u64]; rfl)) ?_
            rintro e v2 ⟨u2, rfl, hu2, hb2⟩
            refine ⟨_, rfl, ?_⟩
            obtain ⟨b2, c2, rfl⟩ := hu2.rd.shape
            have HU3 := Lib.hid hu2.rd
            clear hu2
            have HH' := Lib.hid (PA.below (by repeat (first | exact HH.out | apply PA.drew | apply PA.drewN | apply PA.alloc)) hb2)
            have HE' := Lib.hid (EA.below (by repeat (first | exact HE.out | apply EA.drew | apply EA.drewN | apply EA.alloc)) hb2)
            have HB' := Lib.hid (bl_bl (by repeat (first | exact HB.out | apply bl_drew | apply bl_drewN | apply bl_alloc)) hb2)
            have HL' := Lib.hid (Rd.below (by repeat (first | exact HL.out | apply rd_drew | apply rd_drewN | apply rd_alloc)) hb2)
            have HC' := Lib.hid (Rd.below (by repeat (first | exact HC.out | apply rd_drew | apply rd_drewN | apply rd_alloc)) hb2)
            have HU1' := Lib.hid (Rd.below (by repeat (first | exact HU1.out | apply rd_drew | apply rd_drewN | apply rd_alloc)) hb2)
            have HU2' := Lib.hid (Rd.below (by repeat (first | exact HU2.out | apply rd_drew | apply rd_drewN | apply rd_alloc)) hb2)
            clear hb2
            have HH := HH'
            have HE := HE'
            have HB := HB'
            have HL := HL'
            have HC := HC'
            have HU1 := HU1'
            have HU2 := HU2'
            clear HH' HE' HB' HL' HC' HU1' HU2'
            refine hK.out _ _ ?_ (fun hHeld => ?_)
            · (try dsimp only); (refine ⟨?_, ?_⟩ <;> repeat (first | exact HH.out | exact HE.out | apply PA.drew | apply PA.drewN | apply PA.alloc | apply EA.drew | apply EA.drewN | apply EA.alloc))
            clear hK K
            try simp only [Act.put, List.setIfInBounds_toArray, List.set_cons_zero, List.set_cons_succ]
            refine wpAnyH_ready (rs := [15]) (by kernel_rfl) (by simp) ?_
            refine AllReadyH.cons (by simp only [List.getElem?_toArray, List.getElem?_cons_succ, List.getElem?_cons_zero]; first | done | rfl) (fun K hK => ?_) ?_
            · skip
              refine step_call (by rfl) (num_own (u64 p.tk) _ (u64_bd _).1 (u64_bd _).2) (by go_simp; all_goals first | rfl | (simp only [IntKind.wrap_u64]; rfl)) ?_
              rintro e v2 ⟨u2, rfl, hu2, hb2⟩
              refine ⟨_, rfl, ?_⟩
              obtain ⟨b2, c2, rfl⟩ := hu2.rd.shape
              have HU4 := Lib.hid hu2.rd
              clear hu2
              have HH' := Lib.hid (PA.below (by repeat (first | exact HH.out | apply PA.drew | apply PA.drewN | apply PA.alloc)) hb2)
              have HE' := Lib.hid (EA.below (by repeat (first | exact HE.out | apply EA.drew | apply EA.drewN | apply EA.alloc)) hb2)
              have HB' := Lib.hid (bl_bl (by repeat (first | exact HB.out | apply bl_drew | apply bl_drewN | apply bl_alloc)) hb2)
              have HL' := Lib.hid (Rd.below (by repeat (first | exact HL.out | apply rd_drew | apply rd_drewN | apply rd_alloc)) hb2)
              have HC' := Lib.hid (Rd.below (by repeat (first | exact HC.out | apply rd_drew | apply rd_drewN | apply rd_alloc)) hb2)
              have HU1' := Lib.hid (Rd.below (by repeat (first | exact HU1.out | apply rd_drew | apply rd_drewN | apply rd_alloc)) hb2)
              have HU2' := Lib.hid (Rd.below (by repeat (first | exact HU2.out | apply rd_drew | apply rd_drewN | apply rd_alloc)) hb2)
              have HU3' := Lib.hid (Rd.below (by repeat (first | exact HU3.out | apply rd_drew | apply rd_drewN | apply rd_alloc)) hb2)
              clear hb2
              have HH := HH'
              have HE := HE'
              have HB := HB'
              have HL := HL'
              have HC := HC'
              have HU1 := HU1'
              have HU2 := HU2'
              have HU3 := HU3'
              clear HH' HE' HB' HL' HC' HU1' HU2' HU3'
              refine hK.out _ _ ?_ (fun hHeld => ?_)
              · (try dsimp only); (refine ⟨?_, ?_⟩ <;> repeat (first | exact HH.out | exact HE.out | apply PA.drew | apply PA.drewN | apply PA.alloc | apply EA.drew | apply EA.drewN | apply EA.alloc))
              clear hK K
              try simp only [Act.put, List.setIfInBounds_toArray, List.set_cons_zero, List.set_cons_succ]
              refine wpAnyH_ready (rs := [19]) (by kernel_rfl) (by simp) ?_
              refine AllReadyH.cons (by simp only [List.getElem?_toArray, List.getElem?_cons_succ, List.getElem?_cons_zero]; first | done | rfl) (fun K hK => ?_) ?_
              · skip
                refine step_call (by rfl) (num_own (u64 p.dl) _ (u64_bd _).1 (u64_bd _).2) (by go_simp; all_goals first | rfl | (simp only [IntKind.wrap_u64]; rfl)) ?_
                rintro e v2 ⟨u2, rfl, hu2, hb2⟩
                refine ⟨_, rfl, ?_⟩
                obtain ⟨b2, c2, rfl⟩ := hu2.rd.shape
                have HU5 := Lib.hid hu2.rd
                clear hu2
                have HH' := Lib.hid (PA.below (by repeat (first | exact HH.out | apply PA.drew | apply PA.drewN | apply PA.alloc)) hb2)
                have HE' := Lib.hid (EA.below (by repeat (first | exact HE.out | apply EA.drew | apply EA.drewN | apply EA.alloc)) hb2)
                have HB' := Lib.hid (bl_bl (by repeat (first | exact HB.out | apply bl_drew | apply bl_drewN | apply bl_alloc)) hb2)
                have HL' := Lib.hid (Rd.below (by repeat (first | exact HL.out | apply rd_drew | apply rd_drewN | apply rd_alloc)) hb2)
                have HC' := Lib.hid (Rd.below (by repeat (first | exact HC.out | apply rd_drew | apply rd_drewN | apply rd_alloc)) hb2)
                have HU1' := Lib.hid (Rd.below (by repeat (first | exact HU1.out | apply rd_drew | apply rd_drewN | apply rd_alloc)) hb2)
                have HU2' := Lib.hid (Rd.below (by repeat (first | exact HU2.out | apply rd_drew | apply rd_drewN | apply rd_alloc)) hb2)
                have HU3' := Lib.hid (Rd.below (by repeat (first | exact HU3.out | apply rd_drew | apply rd_drewN | apply rd_alloc)) hb2)
                have HU4' := Lib.hid (Rd.below (by repeat (first | exact HU4.out | apply rd_drew | apply rd_drewN | apply rd_alloc)) hb2)
                clear hb2
                have HH := HH'
                have HE := HE'
                have HB := HB'
                have HL := HL'
                have HC := HC'
                have HU1 := HU1'
                have HU2 := HU2'
                have HU3 := HU3'
                have HU4 := HU4'
                clear HH' HE' HB' HL' HC' HU1' HU2' HU3' HU4'
                refine hK.out _ _ ?_ (fun hHeld => ?_)
                · (try dsimp only); (refine ⟨?_, ?_⟩ <;> repeat (first | exact HH.out | exact HE.out | apply PA.drew | apply PA.drewN | apply PA.alloc | apply EA.drew | apply EA.drewN | apply EA.alloc))
                clear hK K
                try simp only [Act.put, List.setIfInBounds_toArray, List.set_cons_zero, List.set_cons_succ]
                refine wpAnyH_ready (rs := [20]) (by kernel_rfl) (by simp) ?_
                refine AllReadyH.cons (by simp only [List.getElem?_toArray, List.getElem?_cons_succ, List.getElem?_cons_zero]; first | done | rfl) (fun K hK => ?_) ?_
                · go_simp
                  skip
                  refine k_world (fun W' => Below v2.heap.size v2 W' ∧ RdL W' (.slice (some ⟨_, 0, none⟩) 6 6) [[byt 80], lumpB p.nm, numB (u64 p.ver), numB p.key, numB (u64 p.tk), numB (u64 p.dl)]) ⟨(by repeat (first | exact Below.refl _ _ | apply bl_drew | apply bl_drewN | apply bl_alloc)), rdl_six _ _ (by repeat (first | exact HL.out | apply rd_drew | apply rd_drewN | apply rd_alloc)) (by repeat (first | exact HU1.out | apply rd_drew | apply rd_drewN | apply rd_alloc)) (by repeat (first | exact HU2.out | apply rd_drew | apply rd_drewN | apply rd_alloc)) (by repeat (first | exact HU3.out | apply rd_drew | apply rd_drewN | apply rd_alloc)) (by repeat (first | exact HU4.out | apply rd_drew | apply rd_drewN | apply rd_alloc)) (by repeat (first | exact HU5.out | apply rd_drew | apply rd_drewN | apply rd_alloc))⟩ ?_
                  rintro v2 ⟨hb2, hl⟩
                  have HRL := Lib.hid hl
                  clear hl
                  have HH' := Lib.hid (PA.below (by repeat (first | exact HH.out | apply PA.drew | apply PA.drewN | apply PA.alloc)) hb2)
                  have HE' := Lib.hid (EA.below (by repeat (first | exact HE.out | apply EA.drew | apply EA.drewN | apply EA.alloc)) hb2)
                  have HB' := Lib.hid (bl_bl (by repeat (first | exact HB.out | apply bl_drew | apply bl_drewN | apply bl_alloc)) hb2)
                  have HL' := Lib.hid (Rd.below (by repeat (first | exact HL.out | apply rd_drew | apply rd_drewN | apply rd_alloc)) hb2)
                  have HC' := Lib.hid (Rd.below (by repeat (first | exact HC.out | apply rd_drew | apply rd_drewN | apply rd_alloc)) hb2)
                  have HU1' := Lib.hid (Rd.below (by repeat (first | exact HU1.out | apply rd_drew | apply rd_drewN | apply rd_alloc)) hb2)
                  have HU2' := Lib.hid (Rd.below (by repeat (first | exact HU2.out | apply rd_drew | apply rd_drewN | apply rd_alloc)) hb2)
                  have HU3' := Lib.hid (Rd.below (by repeat (first | exact HU3.out | apply rd_drew | apply rd_drewN | apply rd_alloc)) hb2)
                  have HU4' := Lib.hid (Rd.below (by repeat (first | exact HU4.out | apply rd_drew | apply rd_drewN | apply rd_alloc)) hb2)
                  have HU5' := Lib.hid (Rd.below (by repeat (first | exact HU5.out | apply rd_drew | apply rd_drewN | apply rd_alloc)) hb2)
                  clear hb2
                  have HH := HH'
                  have HE := HE'
                  have HB := HB'
                  have HL := HL'
                  have HC := HC'
                  have HU1 := HU1'
                  have HU2 := HU2'
                  have HU3 := HU3'
                  have HU4 := HU4'
                  have HU5 := HU5'
                  clear HH' HE' HB' HL' HC' HU1' HU2' HU3' HU4' HU5'
                  refine hK.out _ _ ?_ (fun hHeld => ?_)
                  · (try dsimp only); (refine ⟨?_, ?_⟩ <;> repeat (first | exact HH.out | exact HE.out | apply PA.drew | apply PA.drewN | apply PA.alloc | apply EA.drew | apply EA.drewN | apply EA.alloc))
                  clear hK K
                  try simp only [Act.put, List.setIfInBounds_toArray, List.set_cons_zero, List.set_cons_succ]
                  refine wpAnyH_ready (rs := [21]) (by kernel_rfl) (by simp) ?_
                  refine AllReadyH.cons (by simp only [List.getElem?_toArray, List.getElem?_cons_succ, List.getElem?_cons_zero]; first | done | rfl) (fun K hK => ?_) ?_
                  · skip
                    refine step_call (by rfl) (join_any _ [[byt 80], lumpB p.nm, numB (u64 p.ver), numB p.key, numB (u64 p.tk), numB (u64 p.dl)] _ HRL.out (by have := OK.out.nm; simp [totalLen, numB_length, lumpB_length]; omega) (by simp)) (by go_simp; all_goals first | rfl | (simp only [IntKind.wrap_u64]; rfl)) ?_
                    rintro e v2 ⟨u2, rfl, hu2, hb2⟩
                    refine ⟨_, rfl, ?_⟩
                    rw [HF.out] at hu2
                    obtain ⟨b2, c2, rfl⟩ := hu2.rd.shape
                    have HO := Lib.hid (hu2.mono (Below.size (by repeat (first | exact HB.out | apply bl_drew | apply bl_drewN | apply bl_alloc))))
                    clear hu2
                    have HH' := Lib.hid (PA.below (by repeat (first | exact HH.out | apply PA.drew | apply PA.drewN | apply PA.alloc)) hb2)
                    have HE' := Lib.hid (EA.below (by repeat (first | exact HE.out | apply EA.drew | apply EA.drewN | apply EA.alloc)) hb2)
                    have HB' := Lib.hid (bl_bl (by repeat (first | exact HB.out | apply bl_drew | apply bl_drewN | apply bl_alloc)) hb2)
                    clear hb2
                    have HH := HH'
                    have HE := HE'
                    have HB := HB'
                    clear HH' HE' HB'
                    refine hK.out _ _ ?_ (fun hHeld => ?_)
                    · (try dsimp only); (refine ⟨?_, ?_⟩ <;> repeat (first | exact HH.out | exact HE.out | apply PA.drew | apply PA.drewN | apply PA.alloc | apply EA.drew | apply EA.drewN | apply EA.alloc))
                    clear hK K
                    try simp only [Act.put, List.setIfInBounds_toArray, List.set_cons_zero, List.set_cons_succ]
                    refine wpAnyH_take (i := 22) (v := ?_) (by simp only [List.getElem?_toArray, List.getElem?_cons_succ, List.getElem?_cons_zero]; first | done | rfl) (by kernel_rfl) (by kernel_rfl) (by kernel_rfl) (fun _ _ _ h => h) (Or.inl ⟨by rfl, ?hy⟩) (by assumption) ?_
                    case hy => (intro w hSw; (try dsimp only at hSw); have c3 := hSw.1.c3; have c4 := hSw.1.c4; have c0 := hSw.2.c0; have c1 := hSw.2.c1; have c2 := hSw.2.c2; go_simp; all_goals with_reducible rfl)
                    try simp only [Act.put, List.setIfInBounds_toArray, List.set_cons_zero, List.set_cons_succ]
                    refine wpAnyH_done (by kernel_rfl) ?_ _
                    refine NoPanic.normal ?_
                    go_wp2_with fail
                    go_ret
                    exact ⟨_, rfl, HO.out, HB.out⟩
                  exact AllReadyH.nil
                exact AllReadyH.nil
              exact AllReadyH.nil
            exact AllReadyH.nil
          exact AllReadyH.nil
        exact AllReadyH.nil
      exact AllReadyH.nil
    exact AllReadyH.nil
  refine AllReadyH.cons (by simp only [List.getElem?_toArray, List.getElem?_cons_succ, List.getElem?_cons_zero]; first | done | rfl) (fun K hK => ?_) ?_
  · skip
    refine step_conv_sb rfl (.tmp 8) rfl rfl HLN.out ?_
    intro u2 v2 hu2 hb2
    obtain ⟨b2, c2, rfl⟩ := hu2.shape
    have HC := Lib.hid hu2
    clear hu2
    have HH' := Lib.hid (PA.below (by repeat (first | exact HH.out | apply PA.drew | apply PA.drewN | apply PA.alloc)) hb2)
    have HE' := Lib.hid (EA.below (by repeat (first | exact HE.out | apply EA.drew | apply EA.drewN | apply EA.alloc)) hb2)
    have HB' := Lib.hid (bl_bl (by repeat (first | exact HB.out | apply bl_drew | apply bl_drewN | apply bl_alloc)) hb2)
    clear hb2
    have HH := HH'
    have HE := HE'
    have HB := HB'
    clear HH' HE' HB'
    refine hK.out _ _ ?_ (fun hHeld => ?_)
    · (try dsimp only); (refine ⟨?_, ?_⟩ <;> repeat (first | exact HH.out | exact HE.out | apply PA.drew | apply PA.drewN | apply PA.alloc | apply EA.drew | apply EA.drewN | apply EA.alloc))
    clear hK K
    try simp only [Act.put, List.setIfInBounds_toArray, List.set_cons_zero, List.set_cons_succ]
    refine wpAnyH_ready (rs := [0, 4]) (by kernel_rfl) (by simp) ?_
    refine AllReadyH.cons (by simp only [List.getElem?_toArray, List.getElem?_cons_succ, List.getElem?_cons_zero]; first | done | rfl) (fun K hK => ?_) ?_
    · skip
      refine step_value (by rfl) (run_build_op' (vals := #[(0, .int .u8 80)]) rfl (by simp only [List.map_toArray, List.map_cons, List.map_nil]; rfl) (run_build_letter 80 _)) ?_
      refine k_world (fun W' => Below v2.heap.size v2 W' ∧ Rd W' (.slice (some ⟨_, 0, none⟩) 1 1) [byt 80]) ⟨(by repeat (first | exact Below.refl _ _ | apply bl_drew | apply bl_drewN | apply bl_alloc)), (by first | exact rd_one _ 80 (by omega) (by omega) | exact rd_drew (rd_one _ 80 (by omega) (by omega)))⟩ ?_
      rintro v2 ⟨hb2, hl⟩
      have HL := Lib.hid hl
      clear hl
      have HH' := Lib.hid (PA.below (by repeat (first | exact HH.out | apply PA.drew | apply PA.drewN | apply PA.alloc)) hb2)
      have HE' := Lib.hid (EA.below (by repeat (first | exact HE.out | apply EA.drew | apply EA.drewN | apply EA.alloc)) hb2)
      have HB' := Lib.hid (bl_bl (by repeat (first | exact HB.out | apply bl_drew | apply bl_drewN | apply bl_alloc)) hb2)
      have HC' := Lib.hid (Rd.below (by repeat (first | exact HC.out | apply rd_drew | apply rd_drewN | apply rd_alloc)) hb2)
      clear hb2
      have HH := HH'
      have HE := HE'
      have HB := HB'
      have HC := HC'
      clear HH' HE' HB' HC'
      refine hK.out _ _ ?_ (fun hHeld => ?_)
      · (try dsimp only); (refine ⟨?_, ?_⟩ <;> repeat (first | exact HH.out | exact HE.out | apply PA.drew | apply PA.drewN | apply PA.alloc | apply EA.drew | apply EA.drewN | apply EA.alloc))
      clear hK K
      try simp only [Act.put, List.setIfInBounds_toArray, List.set_cons_zero, List.set_cons_succ]
      refine wpAnyH_ready (rs := [4]) (by kernel_rfl) (by simp) ?_
      refine AllReadyH.cons (by simp only [List.getElem?_toArray, List.getElem?_cons_succ, List.getElem?_cons_zero]; first | done | rfl) (fun K hK => ?_) ?_
      · skip
        refine step_call (by rfl) (lump_any _ p.nm _ (by repeat (first | exact HC.out | apply rd_drew | apply rd_drewN | apply rd_alloc)) (by have := OK.out.nm; omega)) (by go_simp; all_goals first | rfl | (simp only [IntKind.wrap_u64]; rfl)) ?_
        rintro e v2 ⟨u2, rfl, hu2, hb2⟩
        refine ⟨_, rfl, ?_⟩
        obtain ⟨b2, c2, rfl⟩ := hu2.rd.shape
        have HU1 := Lib.hid hu2.rd
        clear hu2
        have HH' := Lib.hid (PA.below (by repeat (first | exact HH.out | apply PA.drew | apply PA.drewN | apply PA.alloc)) hb2)
        have HE' := Lib.hid (EA.below (by repeat (first | exact HE.out | apply EA.drew | apply EA.drewN | apply EA.alloc)) hb2)
        have HB' := Lib.hid (bl_bl (by repeat (first | exact HB.out | apply bl_drew | apply bl_drewN | apply bl_alloc)) hb2)
        have HL' := Lib.hid (Rd.below (by repeat (first | exact HL.out | apply rd_drew | apply rd_drewN | apply rd_alloc)) hb2)
        have HC' := Lib.hid (Rd.below (by repeat (first | exact HC.out | apply rd_drew | apply rd_drewN | apply rd_alloc)) hb2)
        clear hb2
        have HH := HH'
        have HE := HE'
        have HB := HB'
        have HL := HL'
        have HC := HC'
        clear HH' HE' HB' HL' HC'
        refine hK.out _ _ ?_ (fun hHeld => ?_)
        · (try dsimp only); (refine ⟨?_, ?_⟩ <;> repeat (first | exact HH.out | exact HE.out | apply PA.drew | apply PA.drewN | apply PA.alloc | apply EA.drew | apply EA.drewN | apply EA.alloc))
        clear hK K
        try simp only [Act.put, List.setIfInBounds_toArray, List.set_cons_zero, List.set_cons_succ]
        refine wpAnyH_ready (rs := [8]) (by kernel_rfl) (by simp) ?_
        refine AllReadyH.cons (by simp only [List.getElem?_toArray, List.getElem?_cons_succ, List.getElem?_cons_zero]; first | done | rfl) (fun K hK => ?_) ?_
        · skip
          refine step_call (by rfl) (num_own (u64 p.ver) _ (u64_bd _).1 (u64_bd _).2) (by go_simp; all_goals first | rfl | (simp only [IntKind.wrap_u64]; rfl)) ?_
          rintro e v2 ⟨u2, rfl, hu2, hb2⟩
          refine ⟨_, rfl, ?_⟩
          obtain ⟨b2, c2, rfl⟩ := hu2.rd.shape
          have HU2 := Lib.hid hu2.rd
          clear hu2
          have HH' := Lib.hid (PA.below (by repeat (first | exact HH.out | apply PA.drew | apply PA.drewN | apply PA.alloc)) hb2)
          have HE' := Lib.hid (EA.below (by repeat (first | exact HE.out | apply EA.drew | apply EA.drewN | apply EA.alloc)) hb2)
          have HB' := Lib.hid (bl_bl (by repeat (first | exact HB.out | apply bl_drew | apply bl_drewN | apply bl_alloc)) hb2)
          have HL' := Lib.hid (Rd.below (by repeat (first | exact HL.out | apply rd_drew | apply rd_drewN | apply rd_alloc)) hb2)
          have HC' := Lib.hid (Rd.below (by repeat (first | exact HC.out | apply rd_drew | apply rd_drewN | apply rd_alloc)) hb2)
          have HU1' := Lib.hid (Rd.below (by repeat (first | exact HU1.out | apply rd_drew | apply rd_drewN | apply rd_alloc)) hb2)
          clear hb2
          have HH := HH'
          have HE := HE'
          have HB := HB'
          have HL := HL'
          have HC := HC'
          have HU1 := HU1'
          clear HH' HE' HB' HL' HC' HU1'
          refine hK.out _ _ ?_ (fun hHeld => ?_)
          · (try dsimp only); (refine ⟨?_, ?_⟩ <;> repeat (first | exact HH.out | exact HE.out | apply PA.drew | apply PA.drewN | apply PA.alloc | apply EA.drew | apply EA.drewN | apply EA.alloc))
          clear hK K
          try simp only [Act.put, List.setIfInBounds_toArray, List.set_cons_zero, List.set_cons_succ]
          refine wpAnyH_ready (rs := [11]) (by kernel_rfl) (by simp) ?_
          refine AllReadyH.cons (by simp only [List.getElem?_toArray, List.getElem?_cons_succ, List.getElem?_cons_zero]; first | done | rfl) (fun K hK => ?_) ?_
          · skip
            refine step_call (by rfl) (num_own p.key _ OK.out.key.1 OK.out.key.2) (by go_simp; all_goals first | rfl | (simp only [IntKind.wrap_u64]; rfl)) ?_
            rintro e v2 ⟨u2, rfl, hu2, hb2⟩
            refine ⟨_, rfl, ?_⟩
            obtain ⟨b2, c2, rfl⟩ := hu2.rd.shape
            have HU3 := Lib.hid hu2.rd
            clear hu2
            have HH' := Lib.hid (PA.below (by repeat (first | exact HH.out | apply PA.drew | apply PA.drewN | apply PA.alloc)) hb2)
            have HE' := Lib.hid (EA.below (by repeat (first | exact HE.out | apply EA.drew | apply EA.drewN | apply EA.alloc)) hb2)
            have HB' := Lib.hid (bl_bl (by repeat (first | exact HB.out | apply bl_drew | apply bl_drewN | apply bl_alloc)) hb2)
            have HL' := Lib.hid (Rd.below (by repeat (first | exact HL.out | apply rd_drew | apply rd_drewN | apply rd_alloc)) hb2)
            have HC' := Lib.hid (Rd.below (by repeat (first | exact HC.out | apply rd_drew | apply rd_drewN | apply rd_alloc)) hb2)
            have HU1' := Lib.hid (Rd.below (by repeat (first | exact HU1.out | apply rd_drew | apply rd_drewN | apply rd_alloc)) hb2)
            have HU2' := Lib.hid (Rd.below (by repeat (first | exact HU2.out | apply rd_drew | apply rd_drewN | apply rd_alloc)) hb2)
            clear hb2
            have HH := HH'
            have HE := HE'
            have HB := HB'
            have HL := HL'
            have HC := HC'
            have HU1 := HU1'
            have HU2 := HU2'
            clear HH' HE' HB' HL' HC' HU1' HU2'
            refine hK.out _ _ ?_ (fun hHeld => ?_)
            · (try dsimp only); (refine ⟨?_, ?_⟩ <;> repeat (first | exact HH.out | exact HE.out | apply PA.drew | apply PA.drewN | apply PA.alloc | apply EA.drew | apply EA.drewN | apply EA.alloc))
            clear hK K
            try simp only [Act.put, List.setIfInBounds_toArray, List.set_cons_zero, List.set_cons_succ]
            refine wpAnyH_ready (rs := [15]) (by kernel_rfl) (by simp) ?_
            refine AllReadyH.cons (by simp only [List.getElem?_toArray, List.getElem?_cons_succ, List.getElem?_cons_zero]; first | done | rfl) (fun K hK => ?_) ?_
            · skip
              refine step_call (by rfl) (num_own (u64 p.tk) _ (u64_bd _).1 (u64_bd _).2) (by go_simp; all_goals first | rfl | (simp only [IntKind.wrap_u64]; rfl)) ?_
              rintro e v2 ⟨u2, rfl, hu2, hb2⟩
              refine ⟨_, rfl, ?_⟩
              obtain ⟨b2, c2, rfl⟩ := hu2.rd.shape
              have HU4 := Lib.hid hu2.rd
              clear hu2
              have HH' := Lib.hid (PA.below (by repeat (first | exact HH.out | apply PA.drew | apply PA.drewN | apply PA.alloc)) hb2)
              have HE' := Lib.hid (EA.below (by repeat (first | exact HE.out | apply EA.drew | apply EA.drewN | apply EA.alloc)) hb2)
              have HB' := Lib.hid (bl_bl (by repeat (first | exact HB.out | apply bl_drew | apply bl_drewN | apply bl_alloc)) hb2)
              have HL' := Lib.hid (Rd.below (by repeat (first | exact HL.out | apply rd_drew | apply rd_drewN | apply rd_alloc)) hb2)
              have HC' := Lib.hid (Rd.below (by repeat (first | exact HC.out | apply rd_drew | apply rd_drewN | apply rd_alloc)) hb2)
              have HU1' := Lib.hid (Rd.below (by repeat (first | exact HU1.out | apply rd_drew | apply rd_drewN | apply rd_alloc)) hb2)
              have HU2' := Lib.hid (Rd.below (by repeat (first | exact HU2.out | apply rd_drew | apply rd_drewN | apply rd_alloc)) hb2)
              have HU3' := Lib.hid (Rd.below (by repeat (first | exact HU3.out | apply rd_drew | apply rd_drewN | apply rd_alloc)) hb2)
              clear hb2
              have HH := HH'
              have HE := HE'
              have HB := HB'
              have HL := HL'
              have HC := HC'
              have HU1 := HU1'
              have HU2 := HU2'
              have HU3 := HU3'
              clear HH' HE' HB' HL' HC' HU1' HU2' HU3'
              refine hK.out _ _ ?_ (fun hHeld => ?_)
              · (try dsimp only); (refine ⟨?_, ?_⟩ <;> repeat (first | exact HH.out | exact HE.out | apply PA.drew | apply PA.drewN | apply PA.alloc | apply EA.drew | apply EA.drewN | apply EA.alloc))
              clear hK K
              try simp only [Act.put, List.setIfInBounds_toArray, List.set_cons_zero, List.set_cons_succ]
              refine wpAnyH_ready (rs := [19]) (by kernel_rfl) (by simp) ?_
              refine AllReadyH.cons (by simp only [List.getElem?_toArray, List.getElem?_cons_succ, List.getElem?_cons_zero]; first | done | rfl) (fun K hK => ?_) ?_
              · skip
                refine step_call (by rfl) (num_own (u64 p.dl) _ (u64_bd _).1 (u64_bd _).2) (by go_simp; all_goals first | rfl | (simp only [IntKind.wrap_u64]; rfl)) ?_
                rintro e v2 ⟨u2, rfl, hu2, hb2⟩
                refine ⟨_, rfl, ?_⟩
                obtain ⟨b2, c2, rfl⟩ := hu2.rd.shape
                have HU5 := Lib.hid hu2.rd
                clear hu2
                have HH' := Lib.hid (PA.below (by repeat (first | exact HH.out | apply PA.drew | apply PA.drewN | apply PA.alloc)) hb2)
                have HE' := Lib.hid (EA.below (by repeat (first | exact HE.out | apply EA.drew | apply EA.drewN | apply EA.alloc)) hb2)
                have HB' := Lib.hid (bl_bl (by repeat (first | exact HB.out | apply bl_drew | apply bl_drewN | apply bl_alloc)) hb2)
                have HL' := Lib.hid (Rd.below (by repeat (first | exact HL.out | apply rd_drew | apply rd_drewN | apply rd_alloc)) hb2)
                have HC' := Lib.hid (Rd.below (by repeat (first | exact HC.out | apply rd_drew | apply rd_drewN | apply rd_alloc)) hb2)
                have HU1' := Lib.hid (Rd.below (by repeat (first | exact HU1.out | apply rd_drew | apply rd_drewN | apply rd_alloc)) hb2)
                have HU2' := Lib.hid (Rd.below (by repeat (first | exact HU2.out | apply rd_drew | apply rd_drewN | apply rd_alloc)) hb2)
                have HU3' := Lib.hid (Rd.below (by repeat (first | exact HU3.out | apply rd_drew | apply rd_drewN | apply rd_alloc)) hb2)
                have HU4' := Lib.hid (Rd.below (by repeat (first | exact HU4.out | apply rd_drew | apply rd_drewN | apply rd_alloc)) hb2)
                clear hb2
                have HH := HH'
                have HE := HE'
                have HB := HB'
                have HL := HL'
                have HC := HC'
                have HU1 := HU1'
                have HU2 := HU2'
                have HU3 := HU3'
                have HU4 := HU4'
                clear HH' HE' HB' HL' HC' HU1' HU2' HU3' HU4'
                refine hK.out _ _ ?_ (fun hHeld => ?_)
                · (try dsimp only); (refine ⟨?_, ?_⟩ <;> repeat (first | exact HH.out | exact HE.out | apply PA.drew | apply PA.drewN | apply PA.alloc | apply EA.drew | apply EA.drewN | apply EA.alloc))
                clear hK K
                try simp only [Act.put, List.setIfInBounds_toArray, List.set_cons_zero, List.set_cons_succ]
                refine wpAnyH_ready (rs := [20]) (by kernel_rfl) (by simp) ?_
                refine AllReadyH.cons (by simp only [List.getElem?_toArray, List.getElem?_cons_succ, List.getElem?_cons_zero]; first | done | rfl) (fun K hK => ?_) ?_
                · go_simp
                  skip
                  refine k_world (fun W' => Below v2.heap.size v2 W' ∧ RdL W' (.slice (some ⟨_, 0, none⟩) 6 6) [[byt 80], lumpB p.nm, numB (u64 p.ver), numB p.key, numB (u64 p.tk), numB (u64 p.dl)]) ⟨(by repeat (first | exact Below.refl _ _ | apply bl_drew | apply bl_drewN | apply bl_alloc)), rdl_six _ _ (by repeat (first | exact HL.out | apply rd_drew | apply rd_drewN | apply rd_alloc)) (by repeat (first | exact HU1.out | apply rd_drew | apply rd_drewN | apply rd_alloc)) (by repeat (first | exact HU2.out | apply rd_drew | apply rd_drewN | apply rd_alloc)) (by repeat (first | exact HU3.out | apply rd_drew | apply rd_drewN | apply rd_alloc)) (by repeat (first | exact HU4.out | apply rd_drew | apply rd_drewN | apply rd_alloc)) (by repeat (first | exact HU5.out | apply rd_drew | apply rd_drewN | apply rd_alloc))⟩ ?_
                  rintro v2 ⟨hb2, hl⟩
                  have HRL := Lib.hid hl
                  clear hl
                  have HH' := Lib.hid (PA.below (by repeat (first | exact HH.out | apply PA.drew | apply PA.drewN | apply PA.alloc)) hb2)
                  have HE' := Lib.hid (EA.below (by repeat (first | exact HE.out | apply EA.drew | apply EA.drewN | apply EA.alloc)) hb2)
                  have HB' := Lib.hid (bl_bl (by repeat (first | exact HB.out | apply bl_drew | apply bl_drewN | apply bl_alloc)) hb2)
                  have HL' := Lib.hid (Rd.below (by repeat (first | exact HL.out | apply rd_drew | apply rd_drewN | apply rd_alloc)) hb2)
                  have HC' := Lib.hid (Rd.below (by repeat (first | exact HC.out | apply rd_drew | apply rd_drewN | apply rd_alloc)) hb2)
                  have HU1' := Lib.hid (Rd.below (by repeat (first | exact HU1.out | apply rd_drew | apply rd_drewN | apply rd_alloc)) hb2)
                  have HU2' := Lib.hid (Rd.below (by repeat (first | exact HU2.out | apply rd_drew | apply rd_drewN | apply rd_alloc)) hb2)
                  have HU3' := Lib.hid (Rd.below (by repeat (first | exact HU3.out | apply rd_drew | apply rd_drewN | apply rd_alloc)) hb2)
                  have HU4' := Lib.hid (Rd.below (by repeat (first | exact HU4.out | apply rd_drew | apply rd_drewN | apply rd_alloc)) hb2)
                  have HU5' := Lib.hid (Rd.below (by repeat (first | exact HU5.out | apply rd_drew | apply rd_drewN | apply rd_alloc)) hb2)
                  clear hb2
                  have HH := HH'
                  have HE := HE'
                  have HB := HB'
                  have HL := HL'
                  have HC := HC'
                  have HU1 := HU1'
                  have HU2 := HU2'
                  have HU3 := HU3'
                  have HU4 := HU4'
                  have HU5 := HU5'
                  clear HH' HE' HB' HL' HC' HU1' HU2' HU3' HU4' HU5'
                  refine hK.out _ _ ?_ (fun hHeld => ?_)
                  · (try dsimp only); (refine ⟨?_, ?_⟩ <;> repeat (first | exact HH.out | exact HE.out | apply PA.drew | apply PA.drewN | apply PA.alloc | apply EA.drew | apply EA.drewN | apply EA.alloc))
                  clear hK K
                  try simp only [Act.put, List.setIfInBounds_toArray, List.set_cons_zero, List.set_cons_succ]
                  refine wpAnyH_ready (rs := [21]) (by kernel_rfl) (by simp) ?_
                  refine AllReadyH.cons (by simp only [List.getElem?_toArray, List.getElem?_cons_succ, List.getElem?_cons_zero]; first | done | rfl) (fun K hK => ?_) ?_
                  · skip
                    refine step_call (by rfl) (join_any _ [[byt 80], lumpB p.nm, numB (u64 p.ver), numB p.key, numB (u64 p.tk), numB (u64 p.dl)] _ HRL.out (by have := OK.out.nm; simp [totalLen, numB_length, lumpB_length]; omega) (by simp)) (by go_simp; all_goals first | rfl | (simp only [IntKind.wrap_u64]; rfl)) ?_
                    rintro e v2 ⟨u2, rfl, hu2, hb2⟩
                    refine ⟨_, rfl, ?_⟩
                    rw [HF.out] at hu2
                    obtain ⟨b2, c2, rfl⟩ := hu2.rd.shape
                    have HO := Lib.hid (hu2.mono (Below.size (by repeat (first | exact HB.out | apply bl_drew | apply bl_drewN | apply bl_alloc))))
                    clear hu2
                    have HH' := Lib.hid (PA.below (by repeat (first | exact HH.out | apply PA.drew | apply PA.drewN | apply PA.alloc)) hb2)
                    have HE' := Lib.hid (EA.below (by repeat (first | exact HE.out | apply EA.drew | apply EA.drewN | apply EA.alloc)) hb2)
                    have HB' := Lib.hid (bl_bl (by repeat (first | exact HB.out | apply bl_drew | apply bl_drewN | apply bl_alloc)) hb2)
                    clear hb2
                    have HH := HH'
                    have HE := HE'
                    have HB := HB'
                    clear HH' HE' HB'
                    refine hK.out _ _ ?_ (fun hHeld => ?_)
                    · (try dsimp only); (refine ⟨?_, ?_⟩ <;> repeat (first | exact HH.out | exact HE.out | apply PA.drew | apply PA.drewN | apply PA.alloc | apply EA.drew | apply EA.drewN | apply EA.alloc))
                    clear hK K
                    try simp only [Act.put, List.setIfInBounds_toArray, List.set_cons_zero, List.set_cons_succ]
                    refine wpAnyH_take (i := 22) (v := ?_) (by simp only [List.getElem?_toArray, List.getElem?_cons_succ, List.getElem?_cons_zero]; first | done | rfl) (by kernel_rfl) (by kernel_rfl) (by kernel_rfl) (fun _ _ _ h => h) (Or.inl ⟨by rfl, ?hy⟩) (by assumption) ?_
                    case hy => (intro w hSw; (try dsimp only at hSw); have c3 := hSw.1.c3; have c4 := hSw.1.c4; have c0 := hSw.2.c0; have c1 := hSw.2.c1; have c2 := hSw.2.c2; go_simp; all_goals with_reducible rfl)
                    try simp only [Act.put, List.setIfInBounds_toArray, List.set_cons_zero, List.set_cons_succ]
                    refine wpAnyH_done (by kernel_rfl) ?_ _
                    refine NoPanic.normal ?_
                    go_wp2_with fail
                    go_ret
                    exact ⟨_, rfl, HO.out, HB.out⟩
                  exact AllReadyH.nil
                exact AllReadyH.nil
              exact AllReadyH.nil
            exact AllReadyH.nil
          exact AllReadyH.nil
        exact AllReadyH.nil
      exact AllReadyH.nil
    refine AllReadyH.cons (by simp only [List.getElem?_toArray, List.getElem?_cons_succ, List.getElem?_cons_zero]; first | done | rfl) (fun K hK => ?_) ?_
    · skip
      refine step_call (by rfl) (lump_any _ p.nm _ (by repeat (first | exact HC.out | apply rd_drew | apply rd_drewN | apply rd_alloc)) (by have := OK.out.nm; omega)) (by go_simp; all_goals first | rfl | (simp only [IntKind.wrap_u64]; rfl)) ?_
      rintro e v2 ⟨u2, rfl, hu2, hb2⟩
      refine ⟨_, rfl, ?_⟩
      obtain ⟨b2, c2, rfl⟩ := hu2.rd.shape
      have HU1 := Lib.hid hu2.rd
      clear hu2
      have HH' := Lib.hid (PA.below (by repeat (first | exact HH.out | apply PA.drew | apply PA.drewN | apply PA.alloc)) hb2)
      have HE' := Lib.hid (EA.below (by repeat (first | exact HE.out | apply EA.drew | apply EA.drewN | apply EA.alloc)) hb2)
      have HB' := Lib.hid (bl_bl (by repeat (first | exact HB.out | apply bl_drew | apply bl_drewN | apply bl_alloc)) hb2)
      have HC' := Lib.hid (Rd.below (by repeat (first | exact HC.out | apply rd_drew | apply rd_drewN | apply rd_alloc)) hb2)
      clear hb2
      have HH := HH'
      have HE := HE'
      have HB := HB'
      have HC := HC'
      clear HH' HE' HB' HC'
      refine hK.out _ _ ?_ (fun hHeld => ?_)
      · (try dsimp only); (refine ⟨?_, ?_⟩ <;> repeat (first | exact HH.out | exact HE.out | apply PA.drew | apply PA.drewN | apply PA.alloc | apply EA.drew | apply EA.drewN | apply EA.alloc))
      clear hK K
      try simp only [Act.put, List.setIfInBounds_toArray, List.set_cons_zero, List.set_cons_succ]
      refine wpAnyH_ready (rs := [0, 8]) (by kernel_rfl) (by simp) ?_
      refine AllReadyH.cons (by simp only [List.getElem?_toArray, List.getElem?_cons_succ, List.getElem?_cons_zero]; first | done | rfl) (fun K hK => ?_) ?_
      · skip
        refine step_value (by rfl) (run_build_op' (vals := #[(0, .int .u8 80)]) rfl (by simp only [List.map_toArray, List.map_cons, List.map_nil]; rfl) (run_build_letter 80 _)) ?_
        refine k_world (fun W' => Below v2.heap.size v2 W' ∧ Rd W' (.slice (some ⟨_, 0, none⟩) 1 1) [byt 80]) ⟨(by repeat (first | exact Below.refl _ _ | apply bl_drew | apply bl_drewN | apply bl_alloc)), (by first | exact rd_one _ 80 (by omega) (by omega) | exact rd_drew (rd_one _ 80 (by omega) (by omega)))⟩ ?_
        rintro v2 ⟨hb2, hl⟩
        have HL := Lib.hid hl
        clear hl
        have HH' := Lib.hid (PA.below (by repeat (first | exact HH.out | apply PA.drew | apply PA.drewN | apply PA.alloc)) hb2)
        have HE' := Lib.hid (EA.below (by repeat (first | exact HE.out | apply EA.drew | apply EA.drewN | apply EA.alloc)) hb2)
        have HB' := Lib.hid (bl_bl (by repeat (first | exact HB.out | apply bl_drew | apply bl_drewN | apply bl_alloc)) hb2)
        have HC' := Lib.hid (Rd.below (by repeat (first | exact HC.out | apply rd_drew | apply rd_drewN | apply rd_alloc)) hb2)
        have HU1' := Lib.hid (Rd.below (by repeat (first | exact HU1.out | apply rd_drew | apply rd_drewN | apply rd_alloc)) hb2)
        clear hb2
        have HH := HH'
        have HE := HE'
        have HB := HB'
        have HC := HC'
        have HU1 := HU1'
        clear HH' HE' HB' HC' HU1'
        refine hK.out _ _ ?_ (fun hHeld => ?_)
        · (try dsimp only); (refine ⟨?_, ?_⟩ <;> repeat (first | exact HH.out | exact HE.out | apply PA.drew | apply PA.drewN | apply PA.alloc | apply EA.drew | apply EA.drewN | apply EA.alloc))
        clear hK K
        try simp only [Act.put, List.setIfInBounds_toArray, List.set_cons_zero, List.set_cons_succ]
        refine wpAnyH_ready (rs := [8]) (by kernel_rfl) (by simp) ?_
        refine AllReadyH.cons (by simp only [List.getElem?_toArray, List.getElem?_cons_succ, List.getElem?_cons_zero]; first | done | rfl) (fun K hK => ?_) ?_
        · skip
          refine step_call (by rfl) (num_own (u64 p.ver) _ (u64_bd _).1 (u64_bd _).2) (by go_simp; all_goals first | rfl | (simp only [IntKind.wrap_u64]; rfl)) ?_
          rintro e v2 ⟨u2, rfl, hu2, hb2⟩
          refine ⟨_, rfl, ?_⟩
          obtain ⟨b2, c2, rfl⟩ := hu2.rd.shape
          have HU2 := Lib.hid hu2.rd
          clear hu2
          have HH' := Lib.hid (PA.below (by repeat (first | exact HH.out | apply PA.drew | apply PA.drewN | apply PA.alloc)) hb2)
          have HE' := Lib.hid (EA.below (by repeat (first | exact HE.out | apply EA.drew | apply EA.drewN | apply EA.alloc)) hb2)
          have HB' := Lib.hid (bl_bl (by repeat (first | exact HB.out | apply bl_drew | apply bl_drewN | apply bl_alloc)) hb2)
          have HL' := Lib.hid (Rd.below (by repeat (first | exact HL.out | apply rd_drew | apply rd_drewN | apply rd_alloc)) hb2)
          have HC' := Lib.hid (Rd.below (by repeat (first | exact HC.out | apply rd_drew | apply rd_drewN | apply rd_alloc)) hb2)
          have HU1' := Lib.hid (Rd.below (by repeat (first | exact HU1.out | apply rd_drew | apply rd_drewN | apply rd_alloc)) hb2)
          clear hb2
          have HH := HH'
          have HE := HE'
          have HB := HB'
          have HL := HL'
          have HC := HC'
          have HU1 := HU1'
          clear HH' HE' HB' HL' HC' HU1'
          refine hK.out _ _ ?_ (fun hHeld => ?_)
          · (try dsimp only); (refine ⟨?_, ?_⟩ <;> repeat (first | exact HH.out | exact HE.out | apply PA.drew | apply PA.drewN | apply PA.alloc | apply EA.drew | apply EA.drewN | apply EA.alloc))
          clear hK K
          try simp only [Act.put, List.setIfInBounds_toArray, List.set_cons_zero, List.set_cons_succ]
          refine wpAnyH_ready (rs := [11]) (by kernel_rfl) (by simp) ?_
          refine AllReadyH.cons (by simp only [List.getElem?_toArray, List.getElem?_cons_succ, List.getElem?_cons_zero]; first | done | rfl) (fun K hK => ?_) ?_
          · skip
            refine step_call (by rfl) (num_own p.key _ OK.out.key.1 OK.out.key.2) (by go_simp; all_goals first | rfl | (simp only [IntKind.wrap_u64]; rfl)) ?_
            rintro e v2 ⟨u2, rfl, hu2, hb2⟩
            refine ⟨_, rfl, ?_⟩
            obtain ⟨b2, c2, rfl⟩ := hu2.rd.shape
            have HU3 := Lib.hid hu2.rd
            clear hu2
            have HH' := Lib.hid (PA.below (by repeat (first | exact HH.out | apply PA.drew | apply PA.drewN | apply PA.alloc)) hb2)
            have HE' := Lib.hid (EA.below (by repeat (first | exact HE.out | apply EA.drew | apply EA.drewN | apply EA.alloc)) hb2)
            have HB' := Lib.hid (bl_bl (by repeat (first | exact HB.out | apply bl_drew | apply bl_drewN | apply bl_alloc)) hb2)
            have HL' := Lib.hid (Rd.below (by repeat (first | exact HL.out | apply rd_drew | apply rd_drewN | apply rd_alloc)) hb2)
            have HC' := Lib.hid (Rd.below (by repeat (first | exact HC.out | apply rd_drew | apply rd_drewN | apply rd_alloc)) hb2)
            have HU1' := Lib.hid (Rd.below (by repeat (first | exact HU1.out | apply rd_drew | apply rd_drewN | apply rd_alloc)) hb2)
            have HU2' := Lib.hid (Rd.below (by repeat (first | exact HU2.out | apply rd_drew | apply rd_drewN | apply rd_alloc)) hb2)
            clear hb2
            have HH := HH'
            have HE := HE'
            have HB := HB'
            have HL := HL'
            have HC := HC'
            have HU1 := HU1'
            have HU2 := HU2'
            clear HH' HE' HB' HL' HC' HU1' HU2'
            refine hK.out _ _ ?_ (fun hHeld => ?_)
            · (try dsimp only); (refine ⟨?_, ?_⟩ <;> repeat (first | exact HH.out | exact HE.out | apply PA.drew | apply PA.drewN | apply PA.alloc | apply EA.drew | apply EA.drewN | apply EA.alloc))
            clear hK K
            try simp only [Act.put, List.setIfInBounds_toArray, List.set_cons_zero, List.set_cons_succ]
            refine wpAnyH_ready (rs := [15]) (by kernel_rfl) (by simp) ?_
            refine AllReadyH.cons (by simp only [List.getElem?_toArray, List.getElem?_cons_succ, List.getElem?_cons_zero]; first | done | rfl) (fun K hK => ?_) ?_
            · skip
              refine step_call (by rfl) (num_own (u64 p.tk) _ (u64_bd _).1 (u64_bd _).2) (by go_simp; all_goals first | rfl | (simp only [IntKind.wrap_u64]; rfl)) ?_
              rintro e v2 ⟨u2, rfl, hu2, hb2⟩
              refine ⟨_, rfl, ?_⟩
              obtain ⟨b2, c2, rfl⟩ := hu2.rd.shape
              have HU4 := Lib.hid hu2.rd
              clear hu2
              have HH' := Lib.hid (PA.below (by repeat (first | exact HH.out | apply PA.drew | apply PA.drewN | apply PA.alloc)) hb2)
              have HE' := Lib.hid (EA.below (by repeat (first | exact HE.out | apply EA.drew | apply EA.drewN | apply EA.alloc)) hb2)
              have HB' := Lib.hid (bl_bl (by repeat (first | exact HB.out | apply bl_drew | apply bl_drewN | apply bl_alloc)) hb2)
              have HL' := Lib.hid (Rd.below (by repeat (first | exact HL.out | apply rd_drew | apply rd_drewN | apply rd_alloc)) hb2)
              have HC' := Lib.hid (Rd.below (by repeat (first | exact HC.out | apply rd_drew | apply rd_drewN | apply rd_alloc)) hb2)
              have HU1' := Lib.hid (Rd.below (by repeat (first | exact HU1.out | apply rd_drew | apply rd_drewN | apply rd_alloc)) hb2)
              have HU2' := Lib.hid (Rd.below (by repeat (first | exact HU2.out | apply rd_drew | apply rd_drewN | apply rd_alloc)) hb2)
              have HU3' := Lib.hid (Rd.below (by repeat (first | exact HU3.out | apply rd_drew | apply rd_drewN | apply rd_alloc)) hb2)
              clear hb2
              have HH := HH'
              have HE := HE'
              have HB := HB'
              have HL := HL'
              have HC := HC'
              have HU1 := HU1'
              have HU2 := HU2'
              have HU3 := HU3'
              clear HH' HE' HB' HL' HC' HU1' HU2' HU3'
              refine hK.out _ _ ?_ (fun hHeld => ?_)
              · (try dsimp only); (refine ⟨?_, ?_⟩ <;> repeat (first | exact HH.out | exact HE.out | apply PA.drew | apply PA.drewN | apply PA.alloc | apply EA.drew | apply EA.drewN | apply EA.alloc))
              clear hK K
              try simp only [Act.put, List.setIfInBounds_toArray, List.set_cons_zero, List.set_cons_succ]
              refine wpAnyH_ready (rs := [19]) (by kernel_rfl) (by simp) ?_
              refine AllReadyH.cons (by simp only [List.getElem?_toArray, List.getElem?_cons_succ, List.getElem?_cons_zero]; first | done | rfl) (fun K hK => ?_) ?_
              · skip
                refine step_call (by rfl) (num_own (u64 p.dl) _ (u64_bd _).1 (u64_bd _).2) (by go_simp; all_goals first | rfl | (simp only [IntKind.wrap_u64]; rfl)) ?_
                rintro e v2 ⟨u2, rfl, hu2, hb2⟩
                refine ⟨_, rfl, ?_⟩
                obtain ⟨b2, c2, rfl⟩ := hu2.rd.shape
                have HU5 := Lib.hid hu2.rd
                clear hu2
                have HH' := Lib.hid (PA.below (by repeat (first | exact HH.out | apply PA.drew | apply PA.drewN | apply PA.alloc)) hb2)
                have HE' := Lib.hid (EA.below (by repeat (first | exact HE.out | apply EA.drew | apply EA.drewN | apply EA.alloc)) hb2)
                have HB' := Lib.hid (bl_bl (by repeat (first | exact HB.out | apply bl_drew | apply bl_drewN | apply bl_alloc)) hb2)
                have HL' := Lib.hid (Rd.below (by repeat (first | exact HL.out | apply rd_drew | apply rd_drewN | apply rd_alloc)) hb2)
                have HC' := Lib.hid (Rd.below (by repeat (first | exact HC.out | apply rd_drew | apply rd_drewN | apply rd_alloc)) hb2)
                have HU1' := Lib.hid (Rd.below (by repeat (first | exact HU1.out | apply rd_drew | apply rd_drewN | apply rd_alloc)) hb2)
                have HU2' := Lib.hid (Rd.below (by repeat (first | exact HU2.out | apply rd_drew | apply rd_drewN | apply rd_alloc)) hb2)
                have HU3' := Lib.hid (Rd.below (by repeat (first | exact HU3.out | apply rd_drew | apply rd_drewN | apply rd_alloc)) hb2)
                have HU4' := Lib.hid (Rd.below (by repeat (first | exact HU4.out | apply rd_drew | apply rd_drewN | apply rd_alloc)) hb2)
                clear hb2
                have HH := HH'
                have HE := HE'
                have HB := HB'
                have HL := HL'
                have HC := HC'
                have HU1 := HU1'
                have HU2 := HU2'
                have HU3 := HU3'
                have HU4 := HU4'
                clear HH' HE' HB' HL' HC' HU1' HU2' HU3' HU4'
                refine hK.out _ _ ?_ (fun hHeld => ?_)
                · (try dsimp only); (refine ⟨?_, ?_⟩ <;> repeat (first | exact HH.out | exact HE.out | apply PA.drew | apply PA.drewN | apply PA.alloc | apply EA.drew | apply EA.drewN | apply EA.alloc))
                clear hK K
                try simp only [Act.put, List.setIfInBounds_toArray, List.set_cons_zero, List.set_cons_succ]
                refine wpAnyH_ready (rs := [20]) (by kernel_rfl) (by simp) ?_
                refine AllReadyH.cons (by simp only [List.getElem?_toArray, List.getElem?_cons_succ, List.getElem?_cons_zero]; first | done | rfl) (fun K hK => ?_) ?_
                · go_simp
                  skip
                  refine k_world (fun W' => Below v2.heap.size v2 W' ∧ RdL W' (.slice (some ⟨_, 0, none⟩) 6 6) [[byt 80], lumpB p.nm, numB (u64 p.ver), numB p.key, numB (u64 p.tk), numB (u64 p.dl)]) ⟨(by repeat (first | exact Below.refl _ _ | apply bl_drew | apply bl_drewN | apply bl_alloc)), rdl_six _ _ (by repeat (first | exact HL.out | apply rd_drew | apply rd_drewN | apply rd_alloc)) (by repeat (first | exact HU1.out | apply rd_drew | apply rd_drewN | apply rd_alloc)) (by repeat (first | exact HU2.out | apply rd_drew | apply rd_drewN | apply rd_alloc)) (by repeat (first | exact HU3.out | apply rd_drew | apply rd_drewN | apply rd_alloc)) (by repeat (first | exact HU4.out | apply rd_drew | apply rd_drewN | apply rd_alloc)) (by repeat (first | exact HU5.out | apply rd_drew | apply rd_drewN | apply rd_alloc))⟩ ?_
                  rintro v2 ⟨hb2, hl⟩
                  have HRL := Lib.hid hl
                  clear hl
                  have HH' := Lib.hid (PA.below (by repeat (first | exact HH.out | apply PA.drew | apply PA.drewN | apply PA.alloc)) hb2)
                  have HE' := Lib.hid (EA.below (by repeat (first | exact HE.out | apply EA.drew | apply EA.drewN | apply EA.alloc)) hb2)
                  have HB' := Lib.hid (bl_bl (by repeat (first | exact HB.out | apply bl_drew | apply bl_drewN | apply bl_alloc)) hb2)
                  have HL' := Lib.hid (Rd.below (by repeat (first | exact HL.out | apply rd_drew | apply rd_drewN | apply rd_alloc)) hb2)
                  have HC' := Lib.hid (Rd.below (by repeat (first | exact HC.out | apply rd_drew | apply rd_drewN | apply rd_alloc)) hb2)
                  have HU1' := Lib.hid (Rd.below (by repeat (first | exact HU1.out | apply rd_drew | apply rd_drewN | apply rd_alloc)) hb2)
                  have HU2' := Lib.hid (Rd.below (by repeat (first | exact HU2.out | apply rd_drew | apply rd_drewN | apply rd_alloc)) hb2)
                  have HU3' := Lib.hid (Rd.below (by repeat (first | exact HU3.out | apply rd_drew | apply rd_drewN | apply rd_alloc)) hb2)
                  have HU4' := Lib.hid (Rd.below (by repeat (first | exact HU4.out | apply rd_drew | apply rd_drewN | apply rd_alloc)) hb2)
                  have HU5' := Lib.hid (Rd.below (by repeat (first | exact HU5.out | apply rd_drew | apply rd_drewN | apply rd_alloc)) hb2)
                  clear hb2
                  have HH := HH'
                  have HE := HE'
                  have HB := HB'
                  have HL := HL'
                  have HC := HC'
                  have HU1 := HU1'
                  have HU2 := HU2'
                  have HU3 := HU3'
                  have HU4 := HU4'
                  have HU5 := HU5'
                  clear HH' HE' HB' HL' HC' HU1' HU2' HU3' HU4' HU5'
                  refine hK.out _ _ ?_ (fun hHeld => ?_)
                  · (try dsimp only); (refine ⟨?_, ?_⟩ <;> repeat (first | exact HH.out | exact HE.out | apply PA.drew | apply PA.drewN | apply PA.alloc | apply EA.drew | apply EA.drewN | apply EA.alloc))
                  clear hK K
                  try simp only [Act.put, List.setIfInBounds_toArray, List.set_cons_zero, List.set_cons_succ]
                  refine wpAnyH_ready (rs := [21]) (by kernel_rfl) (by simp) ?_
                  refine AllReadyH.cons (by simp only [List.getElem?_toArray, List.getElem?_cons_succ, List.getElem?_cons_zero]; first | done | rfl) (fun K hK => ?_) ?_
                  · skip
                    refine step_call (by rfl) (join_any _ [[byt 80], lumpB p.nm, numB (u64 p.ver), numB p.key, numB (u64 p.tk), numB (u64 p.dl)] _ HRL.out (by have := OK.out.nm; simp [totalLen, numB_length, lumpB_length]; omega) (by simp)) (by go_simp; all_goals first | rfl | (simp only [IntKind.wrap_u64]; rfl)) ?_
                    rintro e v2 ⟨u2, rfl, hu2, hb2⟩
                    refine ⟨_, rfl, ?_⟩
                    rw [HF.out] at hu2
                    obtain ⟨b2, c2, rfl⟩ := hu2.rd.shape
                    have HO := Lib.hid (hu2.mono (Below.size (by repeat (first | exact HB.out | apply bl_drew | apply bl_drewN | apply bl_alloc))))
                    clear hu2
                    have HH' := Lib.hid (PA.below (by repeat (first | exact HH.out | apply PA.drew | apply PA.drewN | apply PA.alloc)) hb2)
                    have HE' := Lib.hid (EA.below (by repeat (first | exact HE.out | apply EA.drew | apply EA.drewN | apply EA.alloc)) hb2)
                    have HB' := Lib.hid (bl_bl (by repeat (first | exact HB.out | apply bl_drew | apply bl_drewN | apply bl_alloc)) hb2)
                    clear hb2
                    have HH := HH'
                    have HE := HE'
                    have HB := HB'
                    clear HH' HE' HB'
                    refine hK.out _ _ ?_ (fun hHeld => ?_)
                    · (try dsimp only); (refine ⟨?_, ?_⟩ <;> repeat (first | exact HH.out | exact HE.out | apply PA.drew | apply PA.drewN | apply PA.alloc | apply EA.drew | apply EA.drewN | apply EA.alloc))
                    clear hK K
                    try simp only [Act.put, List.setIfInBounds_toArray, List.set_cons_zero, List.set_cons_succ]
                    refine wpAnyH_take (i := 22) (v := ?_) (by simp only [List.getElem?_toArray, List.getElem?_cons_succ, List.getElem?_cons_zero]; first | done | rfl) (by kernel_rfl) (by kernel_rfl) (by kernel_rfl) (fun _ _ _ h => h) (Or.inl ⟨by rfl, ?hy⟩) (by assumption) ?_
                    case hy => (intro w hSw; (try dsimp only at hSw); have c3 := hSw.1.c3; have c4 := hSw.1.c4; have c0 := hSw.2.c0; have c1 := hSw.2.c1; have c2 := hSw.2.c2; go_simp; all_goals with_reducible rfl)
                    try simp only [Act.put, List.setIfInBounds_toArray, List.set_cons_zero, List.set_cons_succ]
                    refine wpAnyH_done (by kernel_rfl) ?_ _
                    refine NoPanic.normal ?_
                    go_wp2_with fail
                    go_ret
                    exact ⟨_, rfl, HO.out, HB.out⟩
                  exact AllReadyH.nil
                exact AllReadyH.nil
              exact AllReadyH.nil
            exact AllReadyH.nil
          exact AllReadyH.nil
        exact AllReadyH.nil
      refine AllReadyH.cons (by simp only [List.getElem?_toArray, List.getElem?_cons_succ, List.getElem?_cons_zero]; first | done | rfl) (fun K hK => ?_) ?_
      · skip
        refine step_call (by rfl) (num_own (u64 p.ver) _ (u64_bd _).1 (u64_bd _).2) (by go_simp; all_goals first | rfl | (simp only [IntKind.wrap_u64]; rfl)) ?_
        rintro e v2 ⟨u2, rfl, hu2, hb2⟩
        refine ⟨_, rfl, ?_⟩
        obtain ⟨b2, c2, rfl⟩ := hu2.rd.shape
        have HU2 := Lib.hid hu2.rd
        clear hu2
        have HH' := Lib.hid (PA.below (by repeat (first | exact HH.out | apply PA.drew | apply PA.drewN | apply PA.alloc)) hb2)
        have HE' := Lib.hid (EA.below (by repeat (first | exact HE.out | apply EA.drew | apply EA.drewN | apply EA.alloc)) hb2)
        have HB' := Lib.hid (bl_bl (by repeat (first | exact HB.out | apply bl_drew | apply bl_drewN | apply bl_alloc)) hb2)
        have HC' := Lib.hid (Rd.below (by repeat (first | exact HC.out | apply rd_drew | apply rd_drewN | apply rd_alloc)) hb2)
        have HU1' := Lib.hid (Rd.below (by repeat (first | exact HU1.out | apply rd_drew | apply rd_drewN | apply rd_alloc)) hb2)
        clear hb2
        have HH := HH'
        have HE := HE'
        have HB := HB'
        have HC := HC'
        have HU1 := HU1'
        clear HH' HE' HB' HC' HU1'
        refine hK.out _ _ ?_ (fun hHeld => ?_)
        · (try dsimp only); (refine ⟨?_, ?_⟩ <;> repeat (first | exact HH.out | exact HE.out | apply PA.drew | apply PA.drewN | apply PA.alloc | apply EA.drew | apply EA.drewN | apply EA.alloc))
        clear hK K
        try simp only [Act.put, List.setIfInBounds_toArray, List.set_cons_zero, List.set_cons_succ]
        refine wpAnyH_ready (rs := [0, 11]) (by kernel_rfl) (by simp) ?_
        refine AllReadyH.cons (by simp only [List.getElem?_toArray, List.getElem?_cons_succ, List.getElem?_cons_zero]; first | done | rfl) (fun K hK => ?_) ?_
        · skip
          refine step_value (by rfl) (run_build_op' (vals := #[(0, .int .u8 80)]) rfl (by simp only [List.map_toArray, List.map_cons, List.map_nil]; rfl) (run_build_letter 80 _)) ?_
          refine k_world (fun W' => Below v2.heap.size v2 W' ∧ Rd W' (.slice (some ⟨_, 0, none⟩) 1 1) [byt 80]) ⟨(by repeat (first | exact Below.refl _ _ | apply bl_drew | apply bl_drewN | apply bl_alloc)), (by first | exact rd_one _ 80 (by omega) (by omega) | exact rd_drew (rd_one _ 80 (by omega) (by omega)))⟩ ?_
          rintro v2 ⟨hb2, hl⟩
          have HL := Lib.hid hl
          clear hl
          have HH' := Lib.hid (PA.below (by repeat (first | exact HH.out | apply PA.drew | apply PA.drewN | apply PA.alloc)) hb2)
          have HE' := Lib.hid (EA.below (by repeat (first | exact HE.out | apply EA.drew | apply EA.drewN | apply EA.alloc)) hb2)
          have HB' := Lib.hid (bl_bl (by repeat (first | exact HB.out | apply bl_drew | apply bl_drewN | apply bl_alloc)) hb2)
          have HC' := Lib.hid (Rd.below (by repeat (first | exact HC.out | apply rd_drew | apply rd_drewN | apply rd_alloc)) hb2)
          have HU1' := Lib.hid (Rd.below (by repeat (first | exact HU1.out | apply rd_drew | apply rd_drewN | apply rd_alloc)) hb2)
          have HU2' := Lib.hid (Rd.below (by repeat (first | exact HU2.out | apply rd_drew | apply rd_drewN | apply rd_alloc)) hb2)
          clear hb2
          have HH := HH'
          have HE := HE'
          have HB := HB'
          have HC := HC'
          have HU1 := HU1'
          have HU2 := HU2'
          clear HH' HE' HB' HC' HU1' HU2'
          refine hK.out _ _ ?_ (fun hHeld => ?_)
          · (try dsimp only); (refine ⟨?_, ?_⟩ <;> repeat (first | exact HH.out | exact HE.out | apply PA.drew | apply PA.drewN | apply PA.alloc | apply EA.drew | apply EA.drewN | apply EA.alloc))
          clear hK K
          try simp only [Act.put, List.setIfInBounds_toArray, List.set_cons_zero, List.set_cons_succ]
          refine wpAnyH_ready (rs := [11]) (by kernel_rfl) (by simp) ?_
          refine AllReadyH.cons (by simp only [List.getElem?_toArray, List.getElem?_cons_succ, List.getElem?_cons_zero]; first | done | rfl) (fun K hK => ?_) ?_
          · skip
            refine step_call (by rfl) (num_own p.key _ OK.out.key.1 OK.out.key.2) (by go_simp; all_goals first | rfl | (simp only [IntKind.wrap_u64]; rfl)) ?_
            rintro e v2 ⟨u2, rfl, hu2, hb2⟩
            refine ⟨_, rfl, ?_⟩
            obtain ⟨b2, c2, rfl⟩ := hu2.rd.shape
            have HU3 := Lib.hid hu2.rd
            clear hu2
            have HH' := Lib.hid (PA.below (by repeat (first | exact HH.out | apply PA.drew | apply PA.drewN | apply PA.alloc)) hb2)
            have HE' := Lib.hid (EA.below (by repeat (first | exact HE.out | apply EA.drew | apply EA.drewN | apply EA.alloc)) hb2)
            have HB' := Lib.hid (bl_bl (by repeat (first | exact HB.out | apply bl_drew | apply bl_drewN | apply bl_alloc)) hb2)
            have HL' := Lib.hid (Rd.below (by repeat (first | exact HL.out | apply rd_drew | apply rd_drewN | apply rd_alloc)) hb2)
            have HC' := Lib.hid (Rd.below (by repeat (first | exact HC.out | apply rd_drew | apply rd_drewN | apply rd_alloc)) hb2)
            have HU1' := Lib.hid (Rd.below (by repeat (first | exact HU1.out | apply rd_drew | apply rd_drewN | apply rd_alloc)) hb2)
            have HU2' := Lib.hid (Rd.below (by repeat (first | exact HU2.out | apply rd_drew | apply rd_drewN | apply rd_alloc)) hb2)
            clear hb2
            have HH := HH'
            have HE := HE'
            have HB := HB'
            have HL := HL'
            have HC := HC'
            have HU1 := HU1'
            have HU2 := HU2'
            clear HH' HE' HB' HL' HC' HU1' HU2'
            refine hK.out _ _ ?_ (fun hHeld => ?_)
            · (try dsimp only); (refine ⟨?_, ?_⟩ <;> repeat (first | exact HH.out | exact HE.out | apply PA.drew | apply PA.drewN | apply PA.alloc | apply EA.drew | apply EA.drewN | apply EA.alloc))
            clear hK K
            try simp only [Act.put, List.setIfInBounds_toArray, List.set_cons_zero, List.set_cons_succ]
            refine wpAnyH_ready (rs := [15]) (by kernel_rfl) (by simp) ?_
            refine AllReadyH.cons (by simp only [List.getElem?_toArray, List.getElem?_cons_succ, List.getElem?_cons_zero]; first | done | rfl) (fun K hK => ?_) ?_
            · skip
              refine step_call (by rfl) (num_own (u64 p.tk) _ (u64_bd _).1 (u64_bd _).2) (by go_simp; all_goals first | rfl | (simp only [IntKind.wrap_u64]; rfl)) ?_
              rintro e v2 ⟨u2, rfl, hu2, hb2⟩
              refine ⟨_, rfl, ?_⟩
              obtain ⟨b2, c2, rfl⟩ := hu2.rd.shape
              have HU4 := Lib.hid hu2.rd
              clear hu2
              have HH' := Lib.hid (PA.below (by repeat (first | exact HH.out | apply PA.drew | apply PA.drewN | apply PA.alloc)) hb2)
              have HE' := Lib.hid (EA.below (by repeat (first | exact HE.out | apply EA.drew | apply EA.drewN | apply EA.alloc)) hb2)
              have HB' := Lib.hid (bl_bl (by repeat (first | exact HB.out | apply bl_drew | apply bl_drewN | apply bl_alloc)) hb2)
              have HL' := Lib.hid (Rd.below (by repeat (first | exact HL.out | apply rd_drew | apply rd_drewN | apply rd_alloc)) hb2)
              have HC' := Lib.hid (Rd.below (by repeat (first | exact HC.out | apply rd_drew | apply rd_drewN | apply rd_alloc)) hb2)
              have HU1' := Lib.hid (Rd.below (by repeat (first | exact HU1.out | apply rd_drew | apply rd_drewN | apply rd_alloc)) hb2)
              have HU2' := Lib.hid (Rd.below (by repeat (first | exact HU2.out | apply rd_drew | apply rd_drewN | apply rd_alloc)) hb2)
              have HU3' := Lib.hid (Rd.below (by repeat (first | exact HU3.out | apply rd_drew | apply rd_drewN | apply rd_alloc)) hb2)
              clear hb2
              have HH := HH'
              have HE := HE'
              have HB := HB'
              have HL := HL'
              have HC := HC'
              have HU1 := HU1'
              have HU2 := HU2'
              have HU3 := HU3'
              clear HH' HE' HB' HL' HC' HU1' HU2' HU3'
              refine hK.out _ _ ?_ (fun hHeld => ?_)
              · (try dsimp only); (refine ⟨?_, ?_⟩ <;> repeat (first | exact HH.out | exact HE.out | apply PA.drew | apply PA.drewN | apply PA.alloc | apply EA.drew | apply EA.drewN | apply EA.alloc))
              clear hK K
              try simp only [Act.put, List.setIfInBounds_toArray, List.set_cons_zero, List.set_cons_succ]
              refine wpAnyH_ready (rs := [19]) (by kernel_rfl) (by simp) ?_
              refine AllReadyH.cons (by simp only [List.getElem?_toArray, List.getElem?_cons_succ, List.getElem?_cons_zero]; first | done | rfl) (fun K hK => ?_) ?_
              · skip
                refine step_call (by rfl) (num_own (u64 p.dl) _ (u64_bd _).1 (u64_bd _).2) (by go_simp; all_goals first | rfl | (simp only [IntKind.wrap_u64]; rfl)) ?_
                rintro e v2 ⟨u2, rfl, hu2, hb2⟩
                refine ⟨_, rfl, ?_⟩
                obtain ⟨b2, c2, rfl⟩ := hu2.rd.shape
                have HU5 := Lib.hid hu2.rd
                clear hu2
                have HH' := Lib.hid (PA.below (by repeat (first | exact HH.out | apply PA.drew | apply PA.drewN | apply PA.alloc)) hb2)
                have HE' := Lib.hid (EA.below (by repeat (first | exact HE.out | apply EA.drew | apply EA.drewN | apply EA.alloc)) hb2)
                have HB' := Lib.hid (bl_bl (by repeat (first | exact HB.out | apply bl_drew | apply bl_drewN | apply bl_alloc)) hb2)
                have HL' := Lib.hid (Rd.below (by repeat (first | exact HL.out | apply rd_drew | apply rd_drewN | apply rd_alloc)) hb2)
                have HC' := Lib.hid (Rd.below (by repeat (first | exact HC.out | apply rd_drew | apply rd_drewN | apply rd_alloc)) hb2)
                have HU1' := Lib.hid (Rd.below (by repeat (first | exact HU1.out | apply rd_drew | apply rd_drewN | apply rd_alloc)) hb2)
                have HU2' := Lib.hid (Rd.below (by repeat (first | exact HU2.out | apply rd_drew | apply rd_drewN | apply rd_alloc)) hb2)
                have HU3' := Lib.hid (Rd.below (by repeat (first | exact HU3.out | apply rd_drew | apply rd_drewN | apply rd_alloc)) hb2)
                have HU4' := Lib.hid (Rd.below (by repeat (first | exact HU4.out | apply rd_drew | apply rd_drewN | apply rd_alloc)) hb2)
                clear hb2
                have HH := HH'
                have HE := HE'
                have HB := HB'
                have HL := HL'
                have HC := HC'
                have HU1 := HU1'
                have HU2 := HU2'
                have HU3 := HU3'
                have HU4 := HU4'
                clear HH' HE' HB' HL' HC' HU1' HU2' HU3' HU4'
                refine hK.out _ _ ?_ (fun hHeld => ?_)
                · (try dsimp only); (refine ⟨?_, ?_⟩ <;> repeat (first | exact HH.out | exact HE.out | apply PA.drew | apply PA.drewN | apply PA.alloc | apply EA.drew | apply EA.drewN | apply EA.alloc))
                clear hK K
                try simp only [Act.put, List.setIfInBounds_toArray, List.set_cons_zero, List.set_cons_succ]
                refine wpAnyH_ready (rs := [20]) (by kernel_rfl) (by simp) ?_
                refine AllReadyH.cons (by simp only [List.getElem?_toArray, List.getElem?_cons_succ, List.getElem?_cons_zero]; first | done | rfl) (fun K hK => ?_) ?_
                · go_simp
                  skip
                  refine k_world (fun W' => Below v2.heap.size v2 W' ∧ RdL W' (.slice (some ⟨_, 0, none⟩) 6 6) [[byt 80], lumpB p.nm, numB (u64 p.ver), numB p.key, numB (u64 p.tk), numB (u64 p.dl)]) ⟨(by repeat (first | exact Below.refl _ _ | apply bl_drew | apply bl_drewN | apply bl_alloc)), rdl_six _ _ (by repeat (first | exact HL.out | apply rd_drew | apply rd_drewN | apply rd_alloc)) (by repeat (first | exact HU1.out | apply rd_drew | apply rd_drewN | apply rd_alloc)) (by repeat (first | exact HU2.out | apply rd_drew | apply rd_drewN | apply rd_alloc)) (by repeat (first | exact HU3.out | apply rd_drew | apply rd_drewN | apply rd_alloc)) (by repeat (first | exact HU4.out | apply rd_drew | apply rd_drewN | apply rd_alloc)) (by repeat (first | exact HU5.out | apply rd_drew | apply rd_drewN | apply rd_alloc))⟩ ?_
                  rintro v2 ⟨hb2, hl⟩
                  have HRL := Lib.hid hl
                  clear hl
                  have HH' := Lib.hid (PA.below (by repeat (first | exact HH.out | apply PA.drew | apply PA.drewN | apply PA.alloc)) hb2)
                  have HE' := Lib.hid (EA.below (by repeat (first | exact HE.out | apply EA.drew | apply EA.drewN | apply EA.alloc)) hb2)
                  have HB' := Lib.hid (bl_bl (by repeat (first | exact HB.out | apply bl_drew | apply bl_drewN | apply bl_alloc)) hb2)
                  have HL' := Lib.hid (Rd.below (by repeat (first | exact HL.out | apply rd_drew | apply rd_drewN | apply rd_alloc)) hb2)
                  have HC' := Lib.hid (Rd.below (by repeat (first | exact HC.out | apply rd_drew | apply rd_drewN | apply rd_alloc)) hb2)
                  have HU1' := Lib.hid (Rd.below (by repeat (first | exact HU1.out | apply rd_drew | apply rd_drewN | apply rd_alloc)) hb2)
                  have HU2' := Lib.hid (Rd.below (by repeat (first | exact HU2.out | apply rd_drew | apply rd_drewN | apply rd_alloc)) hb2)
                  have HU3' := Lib.hid (Rd.below (by repeat (first | exact HU3.out | apply rd_drew | apply rd_drewN | apply rd_alloc)) hb2)
                  have HU4' := Lib.hid (Rd.below (by repeat (first | exact HU4.out | apply rd_drew | apply rd_drewN | apply rd_alloc)) hb2)
                  have HU5' := Lib.hid (Rd.below (by repeat (first | exact HU5.out | apply rd_drew | apply rd_drewN | apply rd_alloc)) hb2)
                  clear hb2
                  have HH := HH'
                  have HE := HE'
                  have HB := HB'
                  have HL := HL'
                  have HC := HC'
                  have HU1 := HU1'
                  have HU2 := HU2'
                  have HU3 := HU3'
                  have HU4 := HU4'
                  have HU5 := HU5'
                  clear HH' HE' HB' HL' HC' HU1' HU2' HU3' HU4' HU5'
                  refine hK.out _ _ ?_ (fun hHeld => ?_)
                  · (try dsimp only); (refine ⟨?_, ?_⟩ <;> repeat (first | exact HH.out | exact HE.out | apply PA.drew | apply PA.drewN | apply PA.alloc | apply EA.drew | apply EA.drewN | apply EA.alloc))
                  clear hK K
                  try simp only [Act.put, List.setIfInBounds_toArray, List.set_cons_zero, List.set_cons_succ]
                  refine wpAnyH_ready (rs := [21]) (by kernel_rfl) (by simp) ?_
                  refine AllReadyH.cons (by simp only [List.getElem?_toArray, List.getElem?_cons_succ, List.getElem?_cons_zero]; first | done | rfl) (fun K hK => ?_) ?_
                  · skip
                    refine step_call (by rfl) (join_any _ [[byt 80], lumpB p.nm, numB (u64 p.ver), numB p.key, numB (u64 p.tk), numB (u64 p.dl)] _ HRL.out (by have := OK.out.nm; simp [totalLen, numB_length, lumpB_length]; omega) (by simp)) (by go_simp; all_goals first | rfl | (simp only [IntKind.wrap_u64]; rfl)) ?_
                    rintro e v2 ⟨u2, rfl, hu2, hb2⟩
                    refine ⟨_, rfl, ?_⟩
                    rw [HF.out] at hu2
                    obtain ⟨b2, c2, rfl⟩ := hu2.rd.shape
                    have HO := Lib.hid (hu2.mono (Below.size (by repeat (first | exact HB.out | apply bl_drew | apply bl_drewN | apply bl_alloc))))
                    clear hu2
                    have HH' := Lib.hid (PA.below (by repeat (first | exact HH.out | apply PA.drew | apply PA.drewN | apply PA.alloc)) hb2)
                    have HE' := Lib.hid (EA.below (by repeat (first | exact HE.out | apply EA.drew | apply EA.drewN | apply EA.alloc)) hb2)
                    have HB' := Lib.hid (bl_bl (by repeat (first | exact HB.out | apply bl_drew | apply bl_drewN | apply bl_alloc)) hb2)
                    clear hb2
                    have HH := HH'
                    have HE := HE'
                    have HB := HB'
                    clear HH' HE' HB'
                    refine hK.out _ _ ?_ (fun hHeld => ?_)
                    · (try dsimp only); (refine ⟨?_, ?_⟩ <;> repeat (first | exact HH.out | exact HE.out | apply PA.drew | apply PA.drewN | apply PA.alloc | apply EA.drew | apply EA.drewN | apply EA.alloc))
                    clear hK K
                    try simp only [Act.put, List.setIfInBounds_toArray, List.set_cons_zero, List.set_cons_succ]
                    refine wpAnyH_take (i := 22) (v := ?_) (by simp only [List.getElem?_toArray, List.getElem?_cons_succ, List.getElem?_cons_zero]; first | done | rfl) (by kernel_rfl) (by kernel_rfl) (by kernel_rfl) (fun _ _ _ h => h) (Or.inl ⟨by rfl, ?hy⟩) (by assumption) ?_
                    case hy => (intro w hSw; (try dsimp only at hSw); have c3 := hSw.1.c3; have c4 := hSw.1.c4; have c0 := hSw.2.c0; have c1 := hSw.2.c1; have c2 := hSw.2.c2; go_simp; all_goals with_reducible rfl)
                    try simp only [Act.put, List.setIfInBounds_toArray, List.set_cons_zero, List.set_cons_succ]
                    refine wpAnyH_done (by kernel_rfl) ?_ _
                    refine NoPanic.normal ?_
                    go_wp2_with fail
                    go_ret
                    exact ⟨_, rfl, HO.out, HB.out⟩
                  exact AllReadyH.nil
                exact AllReadyH.nil
              exact AllReadyH.nil
            exact AllReadyH.nil
          exact AllReadyH.nil
        refine AllReadyH.cons (by simp only [List.getElem?_toArray, List.getElem?_cons_succ, List.getElem?_cons_zero]; first | done | rfl) (fun K hK => ?_) ?_
        · skip
          refine step_call (by rfl) (num_own p.key _ OK.out.key.1 OK.out.key.2) (by go_simp; all_goals first | rfl | (simp only [IntKind.wrap_u64]; rfl)) ?_
          rintro e v2 ⟨u2, rfl, hu2, hb2⟩
          refine ⟨_, rfl, ?_⟩
          obtain ⟨b2, c2, rfl⟩ := hu2.rd.shape
          have HU3 := Lib.hid hu2.rd
          clear hu2
          have HH' := Lib.hid (PA.below (by repeat (first | exact HH.out | apply PA.drew | apply PA.drewN | apply PA.alloc)) hb2)
          have HE' := Lib.hid (EA.below (by repeat (first | exact HE.out | apply EA.drew | apply EA.drewN | apply EA.alloc)) hb2)
          have HB' := Lib.hid (bl_bl (by repeat (first | exact HB.out | apply bl_drew | apply bl_drewN | apply bl_alloc)) hb2)
          have HC' := Lib.hid (Rd.below (by repeat (first | exact HC.out | apply rd_drew | apply rd_drewN | apply rd_alloc)) hb2)
          have HU1' := Lib.hid (Rd.below (by repeat (first | exact HU1.out | apply rd_drew | apply rd_drewN | apply rd_alloc)) hb2)
          have HU2' := Lib.hid (Rd.below (by repeat (first | exact HU2.out | apply rd_drew | apply rd_drewN | apply rd_alloc)) hb2)
          clear hb2
          have HH := HH'
          have HE := HE'
          have HB := HB'
          have HC := HC'
          have HU1 := HU1'
          have HU2 := HU2'
          clear HH' HE' HB' HC' HU1' HU2'
          refine hK.out _ _ ?_ (fun hHeld => ?_)
          · (try dsimp only); (refine ⟨?_, ?_⟩ <;> repeat (first | exact HH.out | exact HE.out | apply PA.drew | apply PA.drewN | apply PA.alloc | apply EA.drew | apply EA.drewN | apply EA.alloc))
          clear hK K
          try simp only [Act.put, List.setIfInBounds_toArray, List.set_cons_zero, List.set_cons_succ]
          refine wpAnyH_ready (rs := [0, 15]) (by kernel_rfl) (by simp) ?_
          refine AllReadyH.cons (by simp only [List.getElem?_toArray, List.getElem?_cons_succ, List.getElem?_cons_zero]; first | done | rfl) (fun K hK => ?_) ?_
          · skip
            refine step_value (by rfl) (run_build_op' (vals := #[(0, .int .u8 80)]) rfl (by simp only [List.map_toArray, List.map_cons, List.map_nil]; rfl) (run_build_letter 80 _)) ?_
            refine k_world (fun W' => Below v2.heap.size v2 W' ∧ Rd W' (.slice (some ⟨_, 0, none⟩) 1 1) [byt 80]) ⟨(by repeat (first | exact Below.refl _ _ | apply bl_drew | apply bl_drewN | apply bl_alloc)), (by first | exact rd_one _ 80 (by omega) (by omega) | exact rd_drew (rd_one _ 80 (by omega) (by omega)))⟩ ?_
            rintro v2 ⟨hb2, hl⟩
            have HL := Lib.hid hl
            clear hl
            have HH' := Lib.hid (PA.below (by repeat (first | exact HH.out | apply PA.drew | apply PA.drewN | apply PA.alloc)) hb2)
            have HE' := Lib.hid (EA.below (by repeat (first | exact HE.out | apply EA.drew | apply EA.drewN | apply EA.alloc)) hb2)
            have HB' := Lib.hid (bl_bl (by repeat (first | exact HB.out | apply bl_drew | apply bl_drewN | apply bl_alloc)) hb2)
            have HC' := Lib.hid (Rd.below (by repeat (first | exact HC.out | apply rd_drew | apply rd_drewN | apply rd_alloc)) hb2)
            have HU1' := Lib.hid (Rd.below (by repeat (first | exact HU1.out | apply rd_drew | apply rd_drewN | apply rd_alloc)) hb2)
            have HU2' := Lib.hid (Rd.below (by repeat (first | exact HU2.out | apply rd_drew | apply rd_drewN | apply rd_alloc)) hb2)
            have HU3' := Lib.hid (Rd.below (by repeat (first | exact HU3.out | apply rd_drew | apply rd_drewN | apply rd_alloc)) hb2)
            clear hb2
            have HH := HH'
            have HE := HE'
            have HB := HB'
            have HC := HC'
            have HU1 := HU1'
            have HU2 := HU2'
            have HU3 := HU3'
            clear HH' HE' HB' HC' HU1' HU2' HU3'
            refine hK.out _ _ ?_ (fun hHeld => ?_)
            · (try dsimp only); (refine ⟨?_, ?_⟩ <;> repeat (first | exact HH.out | exact HE.out | apply PA.drew | apply PA.drewN | apply PA.alloc | apply EA.drew | apply EA.drewN | apply EA.alloc))
            clear hK K
            try simp only [Act.put, List.setIfInBounds_toArray, List.set_cons_zero, List.set_cons_succ]
            refine wpAnyH_ready (rs := [15]) (by kernel_rfl) (by simp) ?_
            refine AllReadyH.cons (by simp only [List.getElem?_toArray, List.getElem?_cons_succ, List.getElem?_cons_zero]; first | done | rfl) (fun K hK => ?_) ?_
            · skip
              refine step_call (by rfl) (num_own (u64 p.tk) _ (u64_bd _).1 (u64_bd _).2) (by go_simp; all_goals first | rfl | (simp only [IntKind.wrap_u64]; rfl)) ?_
              rintro e v2 ⟨u2, rfl, hu2, hb2⟩
              refine ⟨_, rfl, ?_⟩
              obtain ⟨b2, c2, rfl⟩ := hu2.rd.shape
              have HU4 := Lib.hid hu2.rd
              clear hu2
              have HH' := Lib.hid (PA.below (by repeat (first | exact HH.out | apply PA.drew | apply PA.drewN | apply PA.alloc)) hb2)
              have HE' := Lib.hid (EA.below (by repeat (first | exact HE.out | apply EA.drew | apply EA.drewN | apply EA.alloc)) hb2)
              have HB' := Lib.hid (bl_bl (by repeat (first | exact HB.out | apply bl_drew | apply bl_drewN | apply bl_alloc)) hb2)
              have HL' := Lib.hid (Rd.below (by repeat (first | exact HL.out | apply rd_drew | apply rd_drewN | apply rd_alloc)) hb2)
              have HC' := Lib.hid (Rd.below (by repeat (first | exact HC.out | apply rd_drew | apply rd_drewN | apply rd_alloc)) hb2)
              have HU1' := Lib.hid (Rd.below (by repeat (first | exact HU1.out | apply rd_drew | apply rd_drewN | apply rd_alloc)) hb2)
              have HU2' := Lib.hid (Rd.below (by repeat (first | exact HU2.out | apply rd_drew | apply rd_drewN | apply rd_alloc)) hb2)
              have HU3' := Lib.hid (Rd.below (by repeat (first | exact HU3.out | apply rd_drew | apply rd_drewN | apply rd_alloc)) hb2)
              clear hb2
              have HH := HH'
              have HE := HE'
              have HB := HB'
              have HL := HL'
              have HC := HC'
              have HU1 := HU1'
              have HU2 := HU2'
              have HU3 := HU3'
              clear HH' HE' HB' HL' HC' HU1' HU2' HU3'
              refine hK.out _ _ ?_ (fun hHeld => ?_)
              · (try dsimp only); (refine ⟨?_, ?_⟩ <;> repeat (first | exact HH.out | exact HE.out | apply PA.drew | apply PA.drewN | apply PA.alloc | apply EA.drew | apply EA.drewN | apply EA.alloc))
              clear hK K
              try simp only [Act.put, List.setIfInBounds_toArray, List.set_cons_zero, List.set_cons_succ]
              refine wpAnyH_ready (rs := [19]) (by kernel_rfl) (by simp) ?_
              refine AllReadyH.cons (by simp only [List.getElem?_toArray, List.getElem?_cons_succ, List.getElem?_cons_zero]; first | done | rfl) (fun K hK => ?_) ?_
              · skip
                refine step_call (by rfl) (num_own (u64 p.dl) _ (u64_bd _).1 (u64_bd _).2) (by go_simp; all_goals first | rfl | (simp only [IntKind.wrap_u64]; rfl)) ?_
                rintro e v2 ⟨u2, rfl, hu2, hb2⟩
                refine ⟨_, rfl, ?_⟩
                obtain ⟨b2, c2, rfl⟩ := hu2.rd.shape
                have HU5 := Lib.hid hu2.rd
                clear hu2
                have HH' := Lib.hid (PA.below (by repeat (first | exact HH.out | apply PA.drew | apply PA.drewN | apply PA.alloc)) hb2)
                have HE' := Lib.hid (EA.below (by repeat (first | exact HE.out | apply EA.drew | apply EA.drewN | apply EA.alloc)) hb2)
                have HB' := Lib.hid (bl_bl (by repeat (first | exact HB.out | apply bl_drew | apply bl_drewN | apply bl_alloc)) hb2)
                have HL' := Lib.hid (Rd.below (by repeat (first | exact HL.out | apply rd_drew | apply rd_drewN | apply rd_alloc)) hb2)
                have HC' := Lib.hid (Rd.below (by repeat (first | exact HC.out | apply rd_drew | apply rd_drewN | apply rd_alloc)) hb2)
                have HU1' := Lib.hid (Rd.below (by repeat (first | exact HU1.out | apply rd_drew | apply rd_drewN | apply rd_alloc)) hb2)
                have HU2' := Lib.hid (Rd.below (by repeat (first | exact HU2.out | apply rd_drew | apply rd_drewN | apply rd_alloc)) hb2)
                have HU3' := Lib.hid (Rd.below (by repeat (first | exact HU3.out | apply rd_drew | apply rd_drewN | apply rd_alloc)) hb2)
                have HU4' := Lib.hid (Rd.below (by repeat (first | exact HU4.out | apply rd_drew | apply rd_drewN | apply rd_alloc)) hb2)
                clear hb2
                have HH := HH'
                have HE := HE'
                have HB := HB'
                have HL := HL'
                have HC := HC'
                have HU1 := HU1'
                have HU2 := HU2'
                have HU3 := HU3'
                have HU4 := HU4'
                clear HH' HE' HB' HL' HC' HU1' HU2' HU3' HU4'
                refine hK.out _ _ ?_ (fun hHeld => ?_)
                · (try dsimp only); (refine ⟨?_, ?_⟩ <;> repeat (first | exact HH.out | exact HE.out | apply PA.drew | apply PA.drewN | apply PA.alloc | apply EA.drew | apply EA.drewN | apply EA.alloc))
                clear hK K
                try simp only [Act.put, List.setIfInBounds_toArray, List.set_cons_zero, List.set_cons_succ]
                refine wpAnyH_ready (rs := [20]) (by kernel_rfl) (by simp) ?_
                refine AllReadyH.cons (by simp only [List.getElem?_toArray, List.getElem?_cons_succ, List.getElem?_cons_zero]; first | done | rfl) (fun K hK => ?_) ?_
                · go_simp
                  skip
                  refine k_world (fun W' => Below v2.heap.size v2 W' ∧ RdL W' (.slice (some ⟨_, 0, none⟩) 6 6) [[byt 80], lumpB p.nm, numB (u64 p.ver), numB p.key, numB (u64 p.tk), numB (u64 p.dl)]) ⟨(by repeat (first | exact Below.refl _ _ | apply bl_drew | apply bl_drewN | apply bl_alloc)), rdl_six _ _ (by repeat (first | exact HL.out | apply rd_drew | apply rd_drewN | apply rd_alloc)) (by repeat (first | exact HU1.out | apply rd_drew | apply rd_drewN | apply rd_alloc)) (by repeat (first | exact HU2.out | apply rd_drew | apply rd_drewN | apply rd_alloc)) (by repeat (first | exact HU3.out | apply rd_drew | apply rd_drewN | apply rd_alloc)) (by repeat (first | exact HU4.out | apply rd_drew | apply rd_drewN | apply rd_alloc)) (by repeat (first | exact HU5.out | apply rd_drew | apply rd_drewN | apply rd_alloc))⟩ ?_
                  rintro v2 ⟨hb2, hl⟩
                  have HRL := Lib.hid hl
                  clear hl
                  have HH' := Lib.hid (PA.below (by repeat (first | exact HH.out | apply PA.drew | apply PA.drewN | apply PA.alloc)) hb2)
                  have HE' := Lib.hid (EA.below (by repeat (first | exact HE.out | apply EA.drew | apply EA.drewN | apply EA.alloc)) hb2)
                  have HB' := Lib.hid (bl_bl (by repeat (first | exact HB.out | apply bl_drew | apply bl_drewN | apply bl_alloc)) hb2)
                  have HL' := Lib.hid (Rd.below (by repeat (first | exact HL.out | apply rd_drew | apply rd_drewN | apply rd_alloc)) hb2)
                  have HC' := Lib.hid (Rd.below (by repeat (first | exact HC.out | apply rd_drew | apply rd_drewN | apply rd_alloc)) hb2)
                  have HU1' := Lib.hid (Rd.below (by repeat (first | exact HU1.out | apply rd_drew | apply rd_drewN | apply rd_alloc)) hb2)
                  have HU2' := Lib.hid (Rd.below (by repeat (first | exact HU2.out | apply rd_drew | apply rd_drewN | apply rd_alloc)) hb2)
                  have HU3' := Lib.hid (Rd.below (by repeat (first | exact HU3.out | apply rd_drew | apply rd_drewN | apply rd_alloc)) hb2)
                  have HU4' := Lib.hid (Rd.below (by repeat (first | exact HU4.out | apply rd_drew | apply rd_drewN | apply rd_alloc)) hb2)
                  have HU5' := Lib.hid (Rd.below (by repeat (first | exact HU5.out | apply rd_drew | apply rd_drewN | apply rd_alloc)) hb2)
                  clear hb2
                  have HH := HH'
                  have HE := HE'
                  have HB := HB'
                  have HL := HL'
                  have HC := HC'
                  have HU1 := HU1'
                  have HU2 := HU2'
                  have HU3 := HU3'
                  have HU4 := HU4'
                  have HU5 := HU5'
                  clear HH' HE' HB' HL' HC' HU1' HU2' HU3' HU4' HU5'
                  refine hK.out _ _ ?_ (fun hHeld => ?_)
                  · (try dsimp only); (refine ⟨?_, ?_⟩ <;> repeat (first | exact HH.out | exact HE.out | apply PA.drew | apply PA.drewN | apply PA.alloc | apply EA.drew | apply EA.drewN | apply EA.alloc))
                  clear hK K
                  try simp only [Act.put, List.setIfInBounds_toArray, List.set_cons_zero, List.set_cons_succ]
                  refine wpAnyH_ready (rs := [21]) (by kernel_rfl) (by simp) ?_
                  refine AllReadyH.cons (by simp only [List.getElem?_toArray, List.getElem?_cons_succ, List.getElem?_cons_zero]; first | done | rfl) (fun K hK => ?_) ?_
                  · skip
                    refine step_call (by rfl) (join_any _ [[byt 80], lumpB p.nm, numB (u64 p.ver), numB p.key, numB (u64 p.tk), numB (u64 p.dl)] _ HRL.out (by have := OK.out.nm; simp [totalLen, numB_length, lumpB_length]; omega) (by simp)) (by go_simp; all_goals first | rfl | (simp only [IntKind.wrap_u64]; rfl)) ?_
                    rintro e v2 ⟨u2, rfl, hu2, hb2⟩
                    refine ⟨_, rfl, ?_⟩
                    rw [HF.out] at hu2
                    obtain ⟨b2, c2, rfl⟩ := hu2.rd.shape
                    have HO := Lib.hid (hu2.mono (Below.size (by repeat (first | exact HB.out | apply bl_drew | apply bl_drewN | apply bl_alloc))))
                    clear hu2
                    have HH' := Lib.hid (PA.below (by repeat (first | exact HH.out | apply PA.drew | apply PA.drewN | apply PA.alloc)) hb2)
                    have HE' := Lib.hid (EA.below (by repeat (first | exact HE.out | apply EA.drew | apply EA.drewN | apply EA.alloc)) hb2)
                    have HB' := Lib.hid (bl_bl (by repeat (first | exact HB.out | apply bl_drew | apply bl_drewN | apply bl_alloc)) hb2)
                    clear hb2
                    have HH := HH'
                    have HE := HE'
                    have HB := HB'
                    clear HH' HE' HB'
                    refine hK.out _ _ ?_ (fun hHeld => ?_)
                    · (try dsimp only); (refine ⟨?_, ?_⟩ <;> repeat (first | exact HH.out | exact HE.out | apply PA.drew | apply PA.drewN | apply PA.alloc | apply EA.drew | apply EA.drewN | apply EA.alloc))
                    clear hK K
                    try simp only [Act.put, List.setIfInBounds_toArray, List.set_cons_zero, List.set_cons_succ]
                    refine wpAnyH_take (i := 22) (v := ?_) (by simp only [List.getElem?_toArray, List.getElem?_cons_succ, List.getElem?_cons_zero]; first | done | rfl) (by kernel_rfl) (by kernel_rfl) (by kernel_rfl) (fun _ _ _ h => h) (Or.inl ⟨by rfl, ?hy⟩) (by assumption) ?_
                    case hy => (intro w hSw; (try dsimp only at hSw); have c3 := hSw.1.c3; have c4 := hSw.1.c4; have c0 := hSw.2.c0; have c1 := hSw.2.c1; have c2 := hSw.2.c2; go_simp; all_goals with_reducible rfl)
                    try simp only [Act.put, List.setIfInBounds_toArray, List.set_cons_zero, List.set_cons_succ]
                    refine wpAnyH_done (by kernel_rfl) ?_ _
                    refine NoPanic.normal ?_
                    go_wp2_with fail
                    go_ret
                    exact ⟨_, rfl, HO.out, HB.out⟩
                  exact AllReadyH.nil
                exact AllReadyH.nil
              exact AllReadyH.nil
            exact AllReadyH.nil
          refine AllReadyH.cons (by simp only [List.getElem?_toArray, List.getElem?_cons_succ, List.getElem?_cons_zero]; first | done | rfl) (fun K hK => ?_) ?_
          · skip
            refine step_call (by rfl) (num_own (u64 p.tk) _ (u64_bd _).1 (u64_bd _).2) (by go_simp; all_goals first | rfl | (simp only [IntKind.wrap_u64]; rfl)) ?_
            rintro e v2 ⟨u2, rfl, hu2, hb2⟩
            refine ⟨_, rfl, ?_⟩
            obtain ⟨b2, c2, rfl⟩ := hu2.rd.shape
            have HU4 := Lib.hid hu2.rd
            clear hu2
            have HH' := Lib.hid (PA.below (by repeat (first | exact HH.out | apply PA.drew | apply PA.drewN | apply PA.alloc)) hb2)
            have HE' := Lib.hid (EA.below (by repeat (first | exact HE.out | apply EA.drew | apply EA.drewN | apply EA.alloc)) hb2)
            have HB' := Lib.hid (bl_bl (by repeat (first | exact HB.out | apply bl_drew | apply bl_drewN | apply bl_alloc)) hb2)
            have HC' := Lib.hid (Rd.below (by repeat (first | exact HC.out | apply rd_drew | apply rd_drewN | apply rd_alloc)) hb2)
            have HU1' := Lib.hid (Rd.below (by repeat (first | exact HU1.out | apply rd_drew | apply rd_drewN | apply rd_alloc)) hb2)
            have HU2' := Lib.hid (Rd.below (by repeat (first | exact HU2.out | apply rd_drew | apply rd_drewN | apply rd_alloc)) hb2)
            have HU3' := Lib.hid (Rd.below (by repeat (first | exact HU3.out | apply rd_drew | apply rd_drewN | apply rd_alloc)) hb2)
            clear hb2
            have HH := HH'
            have HE := HE'
            have HB := HB'
            have HC := HC'
            have HU1 := HU1'
            have HU2 := HU2'
            have HU3 := HU3'
            clear HH' HE' HB' HC' HU1' HU2' HU3'
            refine hK.out _ _ ?_ (fun hHeld => ?_)
            · (try dsimp only); (refine ⟨?_, ?_⟩ <;> repeat (first | exact HH.out | exact HE.out | apply PA.drew | apply PA.drewN | apply PA.alloc | apply EA.drew | apply EA.drewN | apply EA.alloc))
            clear hK K
            try simp only [Act.put, List.setIfInBounds_toArray, List.set_cons_zero, List.set_cons_succ]
            refine wpAnyH_ready (rs := [0, 19]) (by kernel_rfl) (by simp) ?_
            refine AllReadyH.cons (by simp only [List.getElem?_toArray, List.getElem?_cons_succ, List.getElem?_cons_zero]; first | done | rfl) (fun K hK => ?_) ?_
            · skip
              refine step_value (by rfl) (run_build_op' (vals := #[(0, .int .u8 80)]) rfl (by simp only [List.map_toArray, List.map_cons, List.map_nil]; rfl) (run_build_letter 80 _)) ?_
              refine k_world (fun W' => Below v2.heap.size v2 W' ∧ Rd W' (.slice (some ⟨_, 0, none⟩) 1 1) [byt 80]) ⟨(by repeat (first | exact Below.refl _ _ | apply bl_drew | apply bl_drewN | apply bl_alloc)), (by first | exact rd_one _ 80 (by omega) (by omega) | exact rd_drew (rd_one _ 80 (by omega) (by omega)))⟩ ?_
              rintro v2 ⟨hb2, hl⟩
              have HL := Lib.hid hl
              clear hl
              have HH' := Lib.hid (PA.below (by repeat (first | exact HH.out | apply PA.drew | apply PA.drewN | apply PA.alloc)) hb2)
              have HE' := Lib.hid (EA.below (by repeat (first | exact HE.out | apply EA.drew | apply EA.drewN | apply EA.alloc)) hb2)
              have HB' := Lib.hid (bl_bl (by repeat (first | exact HB.out | apply bl_drew | apply bl_drewN | apply bl_alloc)) hb2)
              have HC' := Lib.hid (Rd.below (by repeat (first | exact HC.out | apply rd_drew | apply rd_drewN | apply rd_alloc)) hb2)
              have HU1' := Lib.hid (Rd.below (by repeat (first | exact HU1.out | apply rd_drew | apply rd_drewN | apply rd_alloc)) hb2)
              have HU2' := Lib.hid (Rd.below (by repeat (first | exact HU2.out | apply rd_drew | apply rd_drewN | apply rd_alloc)) hb2)
              have HU3' := Lib.hid (Rd.below (by repeat (first | exact HU3.out | apply rd_drew | apply rd_drewN | apply rd_alloc)) hb2)
              have HU4' := Lib.hid (Rd.below (by repeat (first | exact HU4.out | apply rd_drew | apply rd_drewN | apply rd_alloc)) hb2)
              clear hb2
              have HH := HH'
              have HE := HE'
              have HB := HB'
              have HC := HC'
              have HU1 := HU1'
              have HU2 := HU2'
              have HU3 := HU3'
              have HU4 := HU4'
              clear HH' HE' HB' HC' HU1' HU2' HU3' HU4'
              refine hK.out _ _ ?_ (fun hHeld => ?_)
              · (try dsimp only); (refine ⟨?_, ?_⟩ <;> repeat (first | exact HH.out | exact HE.out | apply PA.drew | apply PA.drewN | apply PA.alloc | apply EA.drew | apply EA.drewN | apply EA.alloc))
              clear hK K
              try simp only [Act.put, List.setIfInBounds_toArray, List.set_cons_zero, List.set_cons_succ]
              refine wpAnyH_ready (rs := [19]) (by kernel_rfl) (by simp) ?_
              refine AllReadyH.cons (by simp only [List.getElem?_toArray, List.getElem?_cons_succ, List.getElem?_cons_zero]; first | done | rfl) (fun K hK => ?_) ?_
              · skip
                refine step_call (by rfl) (num_own (u64 p.dl) _ (u64_bd _).1 (u64_bd _).2) (by go_simp; all_goals first | rfl | (simp only [IntKind.wrap_u64]; rfl)) ?_
                rintro e v2 ⟨u2, rfl, hu2, hb2⟩
                refine ⟨_, rfl, ?_⟩
                obtain ⟨b2, c2, rfl⟩ := hu2.rd.shape
                have HU5 := Lib.hid hu2.rd
                clear hu2
                have HH' := Lib.hid (PA.below (by repeat (first | exact HH.out | apply PA.drew | apply PA.drewN | apply PA.alloc)) hb2)
                have HE' := Lib.hid (EA.below (by repeat (first | exact HE.out | apply EA.drew | apply EA.drewN | apply EA.alloc)) hb2)
                have HB' := Lib.hid (bl_bl (by repeat (first | exact HB.out | apply bl_drew | apply bl_drewN | apply bl_alloc)) hb2)
                have HL' := Lib.hid (Rd.below (by repeat (first | exact HL.out | apply rd_drew | apply rd_drewN | apply rd_alloc)) hb2)
                have HC' := Lib.hid (Rd.below (by repeat (first | exact HC.out | apply rd_drew | apply rd_drewN | apply rd_alloc)) hb2)
                have HU1' := Lib.hid (Rd.below (by repeat (first | exact HU1.out | apply rd_drew | apply rd_drewN | apply rd_alloc)) hb2)
                have HU2' := Lib.hid (Rd.below (by repeat (first | exact HU2.out | apply rd_drew | apply rd_drewN | apply rd_alloc)) hb2)
                have HU3' := Lib.hid (Rd.below (by repeat (first | exact HU3.out | apply rd_drew | apply rd_drewN | apply rd_alloc)) hb2)
                have HU4' := Lib.hid (Rd.below (by repeat (first | exact HU4.out | apply rd_drew | apply rd_drewN | apply rd_alloc)) hb2)
                clear hb2
                have HH := HH'
                have HE := HE'
                have HB := HB'
                have HL := HL'
                have HC := HC'
                have HU1 := HU1'
                have HU2 := HU2'
                have HU3 := HU3'
                have HU4 := HU4'
                clear HH' HE' HB' HL' HC' HU1' HU2' HU3' HU4'
                refine hK.out _ _ ?_ (fun hHeld => ?_)
                · (try dsimp only); (refine ⟨?_, ?_⟩ <;> repeat (first | exact HH.out | exact HE.out | apply PA.drew | apply PA.drewN | apply PA.alloc | apply EA.drew | apply EA.drewN | apply EA.alloc))
                clear hK K
                try simp only [Act.put, List.setIfInBounds_toArray, List.set_cons_zero, List.set_cons_succ]
                refine wpAnyH_ready (rs := [20]) (by kernel_rfl) (by simp) ?_
                refine AllReadyH.cons (by simp only [List.getElem?_toArray, List.getElem?_cons_succ, List.getElem?_cons_zero]; first | done | rfl) (fun K hK => ?_) ?_
                · go_simp
                  skip
                  refine k_world (fun W' => Below v2.heap.size v2 W' ∧ RdL W' (.slice (some ⟨_, 0, none⟩) 6 6) [[byt 80], lumpB p.nm, numB (u64 p.ver), numB p.key, numB (u64 p.tk), numB (u64 p.dl)]) ⟨(by repeat (first | exact Below.refl _ _ | apply bl_drew | apply bl_drewN | apply bl_alloc)), rdl_six _ _ (by repeat (first | exact HL.out | apply rd_drew | apply rd_drewN | apply rd_alloc)) (by repeat (first | exact HU1.out | apply rd_drew | apply rd_drewN | apply rd_alloc)) (by repeat (first | exact HU2.out | apply rd_drew | apply rd_drewN | apply rd_alloc)) (by repeat (first | exact HU3.out | apply rd_drew | apply rd_drewN | apply rd_alloc)) (by repeat (first | exact HU4.out | apply rd_drew | apply rd_drewN | apply rd_alloc)) (by repeat (first | exact HU5.out | apply rd_drew | apply rd_drewN | apply rd_alloc))⟩ ?_
                  rintro v2 ⟨hb2, hl⟩
                  have HRL := Lib.hid hl
                  clear hl
                  have HH' := Lib.hid (PA.below (by repeat (first | exact HH.out | apply PA.drew | apply PA.drewN | apply PA.alloc)) hb2)
                  have HE' := Lib.hid (EA.below (by repeat (first | exact HE.out | apply EA.drew | apply EA.drewN | apply EA.alloc)) hb2)
                  have HB' := Lib.hid (bl_bl (by repeat (first | exact HB.out | apply bl_drew | apply bl_drewN | apply bl_alloc)) hb2)
                  have HL' := Lib.hid (Rd.below (by repeat (first | exact HL.out | apply rd_drew | apply rd_drewN | apply rd_alloc)) hb2)
                  have HC' := Lib.hid (Rd.below (by repeat (first | exact HC.out | apply rd_drew | apply rd_drewN | apply rd_alloc)) hb2)
                  have HU1' := Lib.hid (Rd.below (by repeat (first | exact HU1.out | apply rd_drew | apply rd_drewN | apply rd_alloc)) hb2)
                  have HU2' := Lib.hid (Rd.below (by repeat (first | exact HU2.out | apply rd_drew | apply rd_drewN | apply rd_alloc)) hb2)
                  have HU3' := Lib.hid (Rd.below (by repeat (first | exact HU3.out | apply rd_drew | apply rd_drewN | apply rd_alloc)) hb2)
                  have HU4' := Lib.hid (Rd.below (by repeat (first | exact HU4.out | apply rd_drew | apply rd_drewN | apply rd_alloc)) hb2)
                  have HU5' := Lib.hid (Rd.below (by repeat (first | exact HU5.out | apply rd_drew | apply rd_drewN | apply rd_alloc)) hb2)
                  clear hb2
                  have HH := HH'
                  have HE := HE'
                  have HB := HB'
                  have HL := HL'
                  have HC := HC'
                  have HU1 := HU1'
                  have HU2 := HU2'
                  have HU3 := HU3'
                  have HU4 := HU4'
                  have HU5 := HU5'
                  clear HH' HE' HB' HL' HC' HU1' HU2' HU3' HU4' HU5'
                  refine hK.out _ _ ?_ (fun hHeld => ?_)
                  · (try dsimp only); (refine ⟨?_, ?_⟩ <;> repeat (first | exact HH.out | exact HE.out | apply PA.drew | apply PA.drewN | apply PA.alloc | apply EA.drew | apply EA.drewN | apply EA.alloc))
                  clear hK K
                  try simp only [Act.put, List.setIfInBounds_toArray, List.set_cons_zero, List.set_cons_succ]
                  refine wpAnyH_ready (rs := [21]) (by kernel_rfl) (by simp) ?_
                  refine AllReadyH.cons (by simp only [List.getElem?_toArray, List.getElem?_cons_succ, List.getElem?_cons_zero]; first | done | rfl) (fun K hK => ?_) ?_
                  · skip
                    refine step_call (by rfl) (join_any _ [[byt 80], lumpB p.nm, numB (u64 p.ver), numB p.key, numB (u64 p.tk), numB (u64 p.dl)] _ HRL.out (by have := OK.out.nm; simp [totalLen, numB_length, lumpB_length]; omega) (by simp)) (by go_simp; all_goals first | rfl | (simp only [IntKind.wrap_u64]; rfl)) ?_
                    rintro e v2 ⟨u2, rfl, hu2, hb2⟩
                    refine ⟨_, rfl, ?_⟩
                    rw [HF.out] at hu2
                    obtain ⟨b2, c2, rfl⟩ := hu2.rd.shape
                    have HO := Lib.hid (hu2.mono (Below.size (by repeat (first | exact HB.out | apply bl_drew | apply bl_drewN | apply bl_alloc))))
                    clear hu2
                    have HH' := Lib.hid (PA.below (by repeat (first | exact HH.out | apply PA.drew | apply PA.drewN | apply PA.alloc)) hb2)
                    have HE' := Lib.hid (EA.below (by repeat (first | exact HE.out | apply EA.drew | apply EA.drewN | apply EA.alloc)) hb2)
                    have HB' := Lib.hid (bl_bl (by repeat (first | exact HB.out | apply bl_drew | apply bl_drewN | apply bl_alloc)) hb2)
                    clear hb2
                    have HH := HH'
                    have HE := HE'
                    have HB := HB'
                    clear HH' HE' HB'
                    refine hK.out _ _ ?_ (fun hHeld => ?_)
                    · (try dsimp only); (refine ⟨?_, ?_⟩ <;> repeat (first | exact HH.out | exact HE.out | apply PA.drew | apply PA.drewN | apply PA.alloc | apply EA.drew | apply EA.drewN | apply EA.alloc))
                    clear hK K
                    try simp only [Act.put, List.setIfInBounds_toArray, List.set_cons_zero, List.set_cons_succ]
                    refine wpAnyH_take (i := 22) (v := ?_) (by simp only [List.getElem?_toArray, List.getElem?_cons_succ, List.getElem?_cons_zero]; first | done | rfl) (by kernel_rfl) (by kernel_rfl) (by kernel_rfl) (fun _ _ _ h => h) (Or.inl ⟨by rfl, ?hy⟩) (by assumption) ?_
                    case hy => (intro w hSw; (try dsimp only at hSw); have c3 := hSw.1.c3; have c4 := hSw.1.c4; have c0 := hSw.2.c0; have c1 := hSw.2.c1; have c2 := hSw.2.c2; go_simp; all_goals with_reducible rfl)
                    try simp only [Act.put, List.setIfInBounds_toArray, List.set_cons_zero, List.set_cons_succ]
                    refine wpAnyH_done (by kernel_rfl) ?_ _
                    refine NoPanic.normal ?_
                    go_wp2_with fail
                    go_ret
                    exact ⟨_, rfl, HO.out, HB.out⟩
                  exact AllReadyH.nil
                exact AllReadyH.nil
              exact AllReadyH.nil
            refine AllReadyH.cons (by simp only [List.getElem?_toArray, List.getElem?_cons_succ, List.getElem?_cons_zero]; first | done | rfl) (fun K hK => ?_) ?_
            · skip
              refine step_call (by rfl) (num_own (u64 p.dl) _ (u64_bd _).1 (u64_bd _).2) (by go_simp; all_goals first | rfl | (simp only [IntKind.wrap_u64]; rfl)) ?_
              rintro e v2 ⟨u2, rfl, hu2, hb2⟩
              refine ⟨_, rfl, ?_⟩
              obtain ⟨b2, c2, rfl⟩ := hu2.rd.shape
              have HU5 := Lib.hid hu2.rd
              clear hu2
              have HH' := Lib.hid (PA.below (by repeat (first | exact HH.out | apply PA.drew | apply PA.drewN | apply PA.alloc)) hb2)
              have HE' := Lib.hid (EA.below (by repeat (first | exact HE.out | apply EA.drew | apply EA.drewN | apply EA.alloc)) hb2)
              have HB' := Lib.hid (bl_bl (by repeat (first | exact HB.out | apply bl_drew | apply bl_drewN | apply bl_alloc)) hb2)
              have HC' := Lib.hid (Rd.below (by repeat (first | exact HC.out | apply rd_drew | apply rd_drewN | apply rd_alloc)) hb2)
              have HU1' := Lib.hid (Rd.below (by repeat (first | exact HU1.out | apply rd_drew | apply rd_drewN | apply rd_alloc)) hb2)
              have HU2' := Lib.hid (Rd.below (by repeat (first | exact HU2.out | apply rd_drew | apply rd_drewN | apply rd_alloc)) hb2)
              have HU3' := Lib.hid (Rd.below (by repeat (first | exact HU3.out | apply rd_drew | apply rd_drewN | apply rd_alloc)) hb2)
              have HU4' := Lib.hid (Rd.below (by repeat (first | exact HU4.out | apply rd_drew | apply rd_drewN | apply rd_alloc)) hb2)
              clear hb2
              have HH := HH'
              have HE := HE'
              have HB := HB'
              have HC := HC'
              have HU1 := HU1'
              have HU2 := HU2'
              have HU3 := HU3'
              have HU4 := HU4'
              clear HH' HE' HB' HC' HU1' HU2' HU3' HU4'
              refine hK.out _ _ ?_ (fun hHeld => ?_)
              · (try dsimp only); (refine ⟨?_, ?_⟩ <;> repeat (first | exact HH.out | exact HE.out | apply PA.drew | apply PA.drewN | apply PA.alloc | apply EA.drew | apply EA.drewN | apply EA.alloc))
              clear hK K
              try simp only [Act.put, List.setIfInBounds_toArray, List.set_cons_zero, List.set_cons_succ]
              refine wpAnyH_ready (rs := [0]) (by kernel_rfl) (by simp) ?_
              refine AllReadyH.cons (by simp only [List.getElem?_toArray, List.getElem?_cons_succ, List.getElem?_cons_zero]; first | done | rfl) (fun K hK => ?_) ?_
              · skip
                refine step_value (by rfl) (run_build_op' (vals := #[(0, .int .u8 80)]) rfl (by simp only [List.map_toArray, List.map_cons, List.map_nil]; rfl) (run_build_letter 80 _)) ?_
                refine k_world (fun W' => Below v2.heap.size v2 W' ∧ Rd W' (.slice (some ⟨_, 0, none⟩) 1 1) [byt 80]) ⟨(by repeat (first | exact Below.refl _ _ | apply bl_drew | apply bl_drewN | apply bl_alloc)), (by first | exact rd_one _ 80 (by omega) (by omega) | exact rd_drew (rd_one _ 80 (by omega) (by omega)))⟩ ?_
                rintro v2 ⟨hb2, hl⟩
                have HL := Lib.hid hl
                clear hl
                have HH' := Lib.hid (PA.below (by repeat (first | exact HH.out | apply PA.drew | apply PA.drewN | apply PA.alloc)) hb2)
                have HE' := Lib.hid (EA.below (by repeat (first | exact HE.out | apply EA.drew | apply EA.drewN | apply EA.alloc)) hb2)
                have HB' := Lib.hid (bl_bl (by repeat (first | exact HB.out | apply bl_drew | apply bl_drewN | apply bl_alloc)) hb2)
                have HC' := Lib.hid (Rd.below (by repeat (first | exact HC.out | apply rd_drew | apply rd_drewN | apply rd_alloc)) hb2)
                have HU1' := Lib.hid (Rd.below (by repeat (first | exact HU1.out | apply rd_drew | apply rd_drewN | apply rd_alloc)) hb2)
                have HU2' := Lib.hid (Rd.below (by repeat (first | exact HU2.out | apply rd_drew | apply rd_drewN | apply rd_alloc)) hb2)
                have HU3' := Lib.hid (Rd.below (by repeat (first | exact HU3.out | apply rd_drew | apply rd_drewN | apply rd_alloc)) hb2)
                have HU4' := Lib.hid (Rd.below (by repeat (first | exact HU4.out | apply rd_drew | apply rd_drewN | apply rd_alloc)) hb2)
                have HU5' := Lib.hid (Rd.below (by repeat (first | exact HU5.out | apply rd_drew | apply rd_drewN | apply rd_alloc)) hb2)
                clear hb2
                have HH := HH'
                have HE := HE'
                have HB := HB'
                have HC := HC'
                have HU1 := HU1'
                have HU2 := HU2'
                have HU3 := HU3'
                have HU4 := HU4'
                have HU5 := HU5'
                clear HH' HE' HB' HC' HU1' HU2' HU3' HU4' HU5'
                refine hK.out _ _ ?_ (fun hHeld => ?_)
                · (try dsimp only); (refine ⟨?_, ?_⟩ <;> repeat (first | exact HH.out | exact HE.out | apply PA.drew | apply PA.drewN | apply PA.alloc | apply EA.drew | apply EA.drewN | apply EA.alloc))
                clear hK K
                try simp only [Act.put, List.setIfInBounds_toArray, List.set_cons_zero, List.set_cons_succ]
                refine wpAnyH_ready (rs := [20]) (by kernel_rfl) (by simp) ?_
                refine AllReadyH.cons (by simp only [List.getElem?_toArray, List.getElem?_cons_succ, List.getElem?_cons_zero]; first | done | rfl) (fun K hK => ?_) ?_
                · go_simp
                  skip
                  refine k_world (fun W' => Below v2.heap.size v2 W' ∧ RdL W' (.slice (some ⟨_, 0, none⟩) 6 6) [[byt 80], lumpB p.nm, numB (u64 p.ver), numB p.key, numB (u64 p.tk), numB (u64 p.dl)]) ⟨(by repeat (first | exact Below.refl _ _ | apply bl_drew | apply bl_drewN | apply bl_alloc)), rdl_six _ _ (by repeat (first | exact HL.out | apply rd_drew | apply rd_drewN | apply rd_alloc)) (by repeat (first | exact HU1.out | apply rd_drew | apply rd_drewN | apply rd_alloc)) (by repeat (first | exact HU2.out | apply rd_drew | apply rd_drewN | apply rd_alloc)) (by repeat (first | exact HU3.out | apply rd_drew | apply rd_drewN | apply rd_alloc)) (by repeat (first | exact HU4.out | apply rd_drew | apply rd_drewN | apply rd_alloc)) (by repeat (first | exact HU5.out | apply rd_drew | apply rd_drewN | apply rd_alloc))⟩ ?_
                  rintro v2 ⟨hb2, hl⟩
                  have HRL := Lib.hid hl
                  clear hl
                  have HH' := Lib.hid (PA.below (by repeat (first | exact HH.out | apply PA.drew | apply PA.drewN | apply PA.alloc)) hb2)
                  have HE' := Lib.hid (EA.below (by repeat (first | exact HE.out | apply EA.drew | apply EA.drewN | apply EA.alloc)) hb2)
                  have HB' := Lib.hid (bl_bl (by repeat (first | exact HB.out | apply bl_drew | apply bl_drewN | apply bl_alloc)) hb2)
                  have HL' := Lib.hid (Rd.below (by repeat (first | exact HL.out | apply rd_drew | apply rd_drewN | apply rd_alloc)) hb2)
                  have HC' := Lib.hid (Rd.below (by repeat (first | exact HC.out | apply rd_drew | apply rd_drewN | apply rd_alloc)) hb2)
                  have HU1' := Lib.hid (Rd.below (by repeat (first | exact HU1.out | apply rd_drew | apply rd_drewN | apply rd_alloc)) hb2)
                  have HU2' := Lib.hid (Rd.below (by repeat (first | exact HU2.out | apply rd_drew | apply rd_drewN | apply rd_alloc)) hb2)
                  have HU3' := Lib.hid (Rd.below (by repeat (first | exact HU3.out | apply rd_drew | apply rd_drewN | apply rd_alloc)) hb2)
                  have HU4' := Lib.hid (Rd.below (by repeat (first | exact HU4.out | apply rd_drew | apply rd_drewN | apply rd_alloc)) hb2)
                  have HU5' := Lib.hid (Rd.below (by repeat (first | exact HU5.out | apply rd_drew | apply rd_drewN | apply rd_alloc)) hb2)
                  clear hb2
                  have HH := HH'
                  have HE := HE'
                  have HB := HB'
                  have HL := HL'
                  have HC := HC'
                  have HU1 := HU1'
                  have HU2 := HU2'
                  have HU3 := HU3'
                  have HU4 := HU4'
                  have HU5 := HU5'
                  clear HH' HE' HB' HL' HC' HU1' HU2' HU3' HU4' HU5'
                  refine hK.out _ _ ?_ (fun hHeld => ?_)
                  · (try dsimp only); (refine ⟨?_, ?_⟩ <;> repeat (first | exact HH.out | exact HE.out | apply PA.drew | apply PA.drewN | apply PA.alloc | apply EA.drew | apply EA.drewN | apply EA.alloc))
                  clear hK K
                  try simp only [Act.put, List.setIfInBounds_toArray, List.set_cons_zero, List.set_cons_succ]
                  refine wpAnyH_ready (rs := [21]) (by kernel_rfl) (by simp) ?_
                  refine AllReadyH.cons (by simp only [List.getElem?_toArray, List.getElem?_cons_succ, List.getElem?_cons_zero]; first | done | rfl) (fun K hK => ?_) ?_
                  · skip
                    refine step_call (by rfl) (join_any _ [[byt 80], lumpB p.nm, numB (u64 p.ver), numB p.key, numB (u64 p.tk), numB (u64 p.dl)] _ HRL.out (by have := OK.out.nm; simp [totalLen, numB_length, lumpB_length]; omega) (by simp)) (by go_simp; all_goals first | rfl | (simp only [IntKind.wrap_u64]; rfl)) ?_
                    rintro e v2 ⟨u2, rfl, hu2, hb2⟩
                    refine ⟨_, rfl, ?_⟩
                    rw [HF.out] at hu2
                    obtain ⟨b2, c2, rfl⟩ := hu2.rd.shape
                    have HO := Lib.hid (hu2.mono (Below.size (by repeat (first | exact HB.out | apply bl_drew | apply bl_drewN | apply bl_alloc))))
                    clear hu2
                    have HH' := Lib.hid (PA.below (by repeat (first | exact HH.out | apply PA.drew | apply PA.drewN | apply PA.alloc)) hb2)
                    have HE' := Lib.hid (EA.below (by repeat (first | exact HE.out | apply EA.drew | apply EA.drewN | apply EA.alloc)) hb2)
                    have HB' := Lib.hid (bl_bl (by repeat (first | exact HB.out | apply bl_drew | apply bl_drewN | apply bl_alloc)) hb2)
                    clear hb2
                    have HH := HH'
                    have HE := HE'
                    have HB := HB'
                    clear HH' HE' HB'
                    refine hK.out _ _ ?_ (fun hHeld => ?_)
                    · (try dsimp only); (refine ⟨?_, ?_⟩ <;> repeat (first | exact HH.out | exact HE.out | apply PA.drew | apply PA.drewN | apply PA.alloc | apply EA.drew | apply EA.drewN | apply EA.alloc))
                    clear hK K
                    try simp only [Act.put, List.setIfInBounds_toArray, List.set_cons_zero, List.set_cons_succ]
                    refine wpAnyH_take (i := 22) (v := ?_) (by simp only [List.getElem?_toArray, List.getElem?_cons_succ, List.getElem?_cons_zero]; first | done | rfl) (by kernel_rfl) (by kernel_rfl) (by kernel_rfl) (fun _ _ _ h => h) (Or.inl ⟨by rfl, ?hy⟩) (by assumption) ?_
                    case hy => (intro w hSw; (try dsimp only at hSw); have c3 := hSw.1.c3; have c4 := hSw.1.c4; have c0 := hSw.2.c0; have c1 := hSw.2.c1; have c2 := hSw.2.c2; go_simp; all_goals with_reducible rfl)
                    try simp only [Act.put, List.setIfInBounds_toArray, List.set_cons_zero, List.set_cons_succ]
                    refine wpAnyH_done (by kernel_rfl) ?_ _
                    refine NoPanic.normal ?_
                    go_wp2_with fail
                    go_ret
                    exact ⟨_, rfl, HO.out, HB.out⟩
                  exact AllReadyH.nil
                exact AllReadyH.nil
              exact AllReadyH.nil
            exact AllReadyH.nil
          exact AllReadyH.nil
        exact AllReadyH.nil
      exact AllReadyH.nil
    exact AllReadyH.nil
  exact AllReadyH.nil

set_option maxRecDepth 100000 in
set_option maxHeartbeats 32000000 in
theorem checkP_any (y : Int) (p : Pr) (w : World) (y0 : 0 ≤ y) (y1 : y < 18446744073709551616) (ok : p.ok) :
    Calls Try.prog 12 #[.int .u64 y, prV p] w fun e w' => e = .returned (.bool (checkP y p)) ∧ Below w.heap.size w w' := by
  show Calls _ _ #[.int .u64 y, .agg p.cells.toArray] w _
  have OK := Lib.hid ok
  clear ok
  cases hr : rightP p with
  | false =>
    have HR := Lib.hid hr
    rw [show checkP y p = false by unfold checkP; rw [hr]; rfl]
    clear hr
    go_enter Try.func12, Try.ntmps12
    go_upto_region 1 with fail
    refine wp_world (fun W => PA w.heap.size p W ∧ Below w.heap.size w W) ⟨PA.new _ _, bl_alloc (Below.refl _ _) _⟩ ?_
    rintro W ⟨hA, hB⟩
    have HH := Lib.hid hA
    have HB := Lib.hid hB
    clear hA hB
    refine wp_region_noPanic ?_
    refine wp_region_held_drew (S := (fun w' => PA w.heap.size p w')) (by kernel_rfl) ?_ (fun hHeld => ?_)
    · (try dsimp only); (repeat (first | exact HH.out | apply PA.drew | apply PA.drewN | apply PA.alloc))
    refine wpAnyH_take (i := 0) (by simp only [List.getElem?_toArray, List.getElem?_cons_succ, List.getElem?_cons_zero]; first | done | rfl) (by kernel_rfl) (by kernel_rfl) (by kernel_rfl) (fun _ _ _ h => h) (yields_pr (by rfl) _ rfl w.heap.size p rfl (fun w hw => hw)) (by assumption) ?_
    try simp only [Act.put, List.setIfInBounds_toArray, List.set_cons_zero, List.set_cons_succ]
    refine wpAnyH_ready (rs := [1]) (by kernel_rfl) (by simp) ?_
    refine AllReadyH.cons (by simp only [List.getElem?_toArray, List.getElem?_cons_succ, List.getElem?_cons_zero]; first | done | rfl) (fun K hK => ?_) ?_
    · skip
      refine step_call (by rfl) (rightP_any p _) (by go_simp; all_goals first | rfl | (simp only [IntKind.wrap_u64]; rfl)) ?_
      rintro e v2 ⟨rfl, hb2⟩
      refine ⟨_, rfl, ?_⟩
      rw [HR.out]
      have HH' := Lib.hid (PA.below (by repeat (first | exact HH.out | apply PA.drew | apply PA.drewN | apply PA.alloc)) hb2)
      have HB' := Lib.hid (bl_bl (by repeat (first | exact HB.out | apply bl_drew | apply bl_drewN | apply bl_alloc)) hb2)
      clear hb2
      have HH := HH'
      have HB := HB'
      clear HH' HB'
      refine hK.out _ _ ?_ (fun hHeld => ?_)
      · (try dsimp only); (repeat (first | exact HH.out | apply PA.drew | apply PA.drewN | apply PA.alloc))
      clear hK K
      try simp only [Act.put, List.setIfInBounds_toArray, List.set_cons_zero, List.set_cons_succ]
      refine wpAnyH_take (i := 2) (v := ?_) (by simp only [List.getElem?_toArray, List.getElem?_cons_succ, List.getElem?_cons_zero]; first | done | rfl) (by kernel_rfl) (by kernel_rfl) (by kernel_rfl) (fun _ _ _ h => h) (Or.inl ⟨by rfl, ?hy⟩) (by assumption) ?_
      case hy => (intro w hSw; (try dsimp only at hSw); have c5 := hSw.c5; have c6 := hSw.c6; go_simp; all_goals with_reducible rfl)
      try simp only [Act.put, List.setIfInBounds_toArray, List.set_cons_zero, List.set_cons_succ]
      refine wpAnyH_take (i := 3) (v := undef) (by simp only [List.getElem?_toArray, List.getElem?_cons_succ, List.getElem?_cons_zero]; first | done | rfl) (by kernel_rfl) (by kernel_rfl) (by kernel_rfl) (fun _ _ _ h => h) (Or.inr ⟨by rfl, rfl⟩) (by assumption) ?_
      try simp only [Act.put, List.setIfInBounds_toArray, List.set_cons_zero, List.set_cons_succ]
      refine wpAnyH_take (i := 4) (v := undef) (by simp only [List.getElem?_toArray, List.getElem?_cons_succ, List.getElem?_cons_zero]; first | done | rfl) (by kernel_rfl) (by kernel_rfl) (by kernel_rfl) (fun _ _ _ h => h) (Or.inr ⟨by rfl, rfl⟩) (by assumption) ?_
      try simp only [Act.put, List.setIfInBounds_toArray, List.set_cons_zero, List.set_cons_succ]
      refine wpAnyH_take (i := 5) (v := undef) (by simp only [List.getElem?_toArray, List.getElem?_cons_succ, List.getElem?_cons_zero]; first | done | rfl) (by kernel_rfl) (by kernel_rfl) (by kernel_rfl) (fun _ _ _ h => h) (Or.inr ⟨by rfl, rfl⟩) (by assumption) ?_
      try simp only [Act.put, List.setIfInBounds_toArray, List.set_cons_zero, List.set_cons_succ]
      refine wpAnyH_take (i := 6) (v := undef) (by simp only [List.getElem?_toArray, List.getElem?_cons_succ, List.getElem?_cons_zero]; first | done | rfl) (by kernel_rfl) (by kernel_rfl) (by kernel_rfl) (fun _ _ _ h => h) (Or.inr ⟨by rfl, rfl⟩) (by assumption) ?_
      try simp only [Act.put, List.setIfInBounds_toArray, List.set_cons_zero, List.set_cons_succ]
      refine wpAnyH_take (i := 7) (v := undef) (by simp only [List.getElem?_toArray, List.getElem?_cons_succ, List.getElem?_cons_zero]; first | done | rfl) (by kernel_rfl) (by kernel_rfl) (by kernel_rfl) (fun _ _ _ h => h) (Or.inr ⟨by rfl, rfl⟩) (by assumption) ?_
      try simp only [Act.put, List.setIfInBounds_toArray, List.set_cons_zero, List.set_cons_succ]
      refine wpAnyH_take (i := 8) (v := undef) (by simp only [List.getElem?_toArray, List.getElem?_cons_succ, List.getElem?_cons_zero]; first | done | rfl) (by kernel_rfl) (by kernel_rfl) (by kernel_rfl) (fun _ _ _ h => h) (Or.inr ⟨by rfl, rfl⟩) (by assumption) ?_
      try simp only [Act.put, List.setIfInBounds_toArray, List.set_cons_zero, List.set_cons_succ]
      refine wpAnyH_take (i := 9) (v := ?_) (by simp only [List.getElem?_toArray, List.getElem?_cons_succ, List.getElem?_cons_zero]; first | done | rfl) (by kernel_rfl) (by kernel_rfl) (by kernel_rfl) (fun _ _ _ h => h) (Or.inl ⟨by rfl, ?hy⟩) (by assumption) ?_
      case hy => (intro w hSw; (try dsimp only at hSw); have c5 := hSw.c5; have c6 := hSw.c6; go_simp; all_goals with_reducible rfl)
      try simp only [Act.put, List.setIfInBounds_toArray, List.set_cons_zero, List.set_cons_succ]
      refine wpAnyH_take (i := 10) (v := ?_) (by simp only [List.getElem?_toArray, List.getElem?_cons_succ, List.getElem?_cons_zero]; first | done | rfl) (by kernel_rfl) (by kernel_rfl) (by kernel_rfl) (fun _ _ _ h => h) (Or.inl ⟨by rfl, ?hy⟩) (by assumption) ?_
      case hy => (intro w hSw; (try dsimp only at hSw); have c5 := hSw.c5; have c6 := hSw.c6; go_simp; all_goals with_reducible rfl)
      try simp only [Act.put, List.setIfInBounds_toArray, List.set_cons_zero, List.set_cons_succ]
      refine wpAnyH_done (by kernel_rfl) ?_ _
      refine NoPanic.normal ?_
      go_wp2_with fail
      go_ret
      exact ⟨rfl, HB.out⟩
    exact AllReadyH.nil
  | true =>
    have HR := Lib.hid hr
    rw [show checkP y p = checkF y (msgP p) p.r p.s by unfold checkP; rw [hr]; rfl]
    clear hr
    go_enter Try.func12, Try.ntmps12
    go_upto_region 1 with fail
    refine wp_world (fun W => PA w.heap.size p W ∧ Below w.heap.size w W) ⟨PA.new _ _, bl_alloc (Below.refl _ _) _⟩ ?_
    rintro W ⟨hA, hB⟩
    have HH := Lib.hid hA
    have HB := Lib.hid hB
    clear hA hB
    refine wp_region_noPanic ?_
    refine wp_region_held_drew (S := (fun w' => PA w.heap.size p w')) (by kernel_rfl) ?_ (fun hHeld => ?_)
    · (try dsimp only); (repeat (first | exact HH.out | apply PA.drew | apply PA.drewN | apply PA.alloc))
    refine wpAnyH_take (i := 0) (by simp only [List.getElem?_toArray, List.getElem?_cons_succ, List.getElem?_cons_zero]; first | done | rfl) (by kernel_rfl) (by kernel_rfl) (by kernel_rfl) (fun _ _ _ h => h) (yields_pr (by rfl) _ rfl w.heap.size p rfl (fun w hw => hw)) (by assumption) ?_
    try simp only [Act.put, List.setIfInBounds_toArray, List.set_cons_zero, List.set_cons_succ]
    refine wpAnyH_ready (rs := [1]) (by kernel_rfl) (by simp) ?_
    refine AllReadyH.cons (by simp only [List.getElem?_toArray, List.getElem?_cons_succ, List.getElem?_cons_zero]; first | done | rfl) (fun K hK => ?_) ?_
    · skip
      refine step_call (by rfl) (rightP_any p _) (by go_simp; all_goals first | rfl | (simp only [IntKind.wrap_u64]; rfl)) ?_
      rintro e v2 ⟨rfl, hb2⟩
      refine ⟨_, rfl, ?_⟩
      rw [HR.out]
      have HH' := Lib.hid (PA.below (by repeat (first | exact HH.out | apply PA.drew | apply PA.drewN | apply PA.alloc)) hb2)
      have HB' := Lib.hid (bl_bl (by repeat (first | exact HB.out | apply bl_drew | apply bl_drewN | apply bl_alloc)) hb2)
      clear hb2
      have HH := HH'
      have HB := HB'
      clear HH' HB'
      refine hK.out _ _ ?_ (fun hHeld => ?_)
      · (try dsimp only); (repeat (first | exact HH.out | apply PA.drew | apply PA.drewN | apply PA.alloc))
      clear hK K
      try simp only [Act.put, List.setIfInBounds_toArray, List.set_cons_zero, List.set_cons_succ]
      refine wpAnyH_take (i := 2) (v := ?_) (by simp only [List.getElem?_toArray, List.getElem?_cons_succ, List.getElem?_cons_zero]; first | done | rfl) (by kernel_rfl) (by kernel_rfl) (by kernel_rfl) (fun _ _ _ h => h) (Or.inl ⟨by rfl, ?hy⟩) (by assumption) ?_
      case hy => (intro w hSw; (try dsimp only at hSw); have c5 := hSw.c5; have c6 := hSw.c6; go_simp; all_goals with_reducible rfl)
      try simp only [Act.put, List.setIfInBounds_toArray, List.set_cons_zero, List.set_cons_succ]
      refine wpAnyH_take (i := 3) (v := ?_) (by simp only [List.getElem?_toArray, List.getElem?_cons_succ, List.getElem?_cons_zero]; first | done | rfl) (by kernel_rfl) (by kernel_rfl) (by kernel_rfl) (fun _ _ _ h => h) (Or.inl ⟨by rfl, ?hy⟩) (by assumption) ?_
      case hy => (intro w hSw; (try dsimp only at hSw); have c5 := hSw.c5; have c6 := hSw.c6; go_simp; all_goals with_reducible rfl)
      try simp only [Act.put, List.setIfInBounds_toArray, List.set_cons_zero, List.set_cons_succ]
      refine wpAnyH_take (i := 4) (by simp only [List.getElem?_toArray, List.getElem?_cons_succ, List.getElem?_cons_zero]; first | done | rfl) (by kernel_rfl) (by kernel_rfl) (by kernel_rfl) (fun _ _ _ h => h) (yields_pr (by rfl) _ rfl w.heap.size p rfl (fun w hw => hw)) (by assumption) ?_
      try simp only [Act.put, List.setIfInBounds_toArray, List.set_cons_zero, List.set_cons_succ]
      refine wpAnyH_take (i := 6) (v := ?_) (by simp only [List.getElem?_toArray, List.getElem?_cons_succ, List.getElem?_cons_zero]; first | done | rfl) (by kernel_rfl) (by kernel_rfl) (by kernel_rfl) (fun _ _ _ h => h) (Or.inl ⟨by rfl, ?hy⟩) (by assumption) ?_
      case hy => (intro w hSw; (try dsimp only at hSw); have c5 := hSw.c5; have c6 := hSw.c6; go_simp; all_goals with_reducible rfl)
      try simp only [Act.put, List.setIfInBounds_toArray, List.set_cons_zero, List.set_cons_succ]
      refine wpAnyH_take (i := 7) (v := ?_) (by simp only [List.getElem?_toArray, List.getElem?_cons_succ, List.getElem?_cons_zero]; first | done | rfl) (by kernel_rfl) (by kernel_rfl) (by kernel_rfl) (fun _ _ _ h => h) (Or.inl ⟨by rfl, ?hy⟩) (by assumption) ?_
      case hy => (intro w hSw; (try dsimp only at hSw); have c5 := hSw.c5; have c6 := hSw.c6; go_simp; all_goals with_reducible rfl)
      try simp only [Act.put, List.setIfInBounds_toArray, List.set_cons_zero, List.set_cons_succ]
      refine wpAnyH_ready (rs := [5]) (by kernel_rfl) (by simp) ?_
      refine AllReadyH.cons (by simp only [List.getElem?_toArray, List.getElem?_cons_succ, List.getElem?_cons_zero]; first | done | rfl) (fun K hK => ?_) ?_
      · skip
        refine step_call (by rfl) (msgP_any p _ OK.out) (by go_simp; all_goals first | rfl | (simp only [IntKind.wrap_u64]; rfl)) ?_
        rintro e v2 ⟨u2, rfl, hu2, hb2⟩
        refine ⟨_, rfl, ?_⟩
        obtain ⟨b2, c2, rfl⟩ := hu2.rd.shape
        have HU := Lib.hid hu2.rd
        clear hu2
        have HH' := Lib.hid (PA.below (by repeat (first | exact HH.out | apply PA.drew | apply PA.drewN | apply PA.alloc)) hb2)
        have HB' := Lib.hid (bl_bl (by repeat (first | exact HB.out | apply bl_drew | apply bl_drewN | apply bl_alloc)) hb2)
        clear hb2
        have HH := HH'
        have HB := HB'
        clear HH' HB'
        refine hK.out _ _ ?_ (fun hHeld => ?_)
        · (try dsimp only); (repeat (first | exact HH.out | apply PA.drew | apply PA.drewN | apply PA.alloc))
        clear hK K
        try simp only [Act.put, List.setIfInBounds_toArray, List.set_cons_zero, List.set_cons_succ]
        refine wpAnyH_ready (rs := [8]) (by kernel_rfl) (by simp) ?_
        refine AllReadyH.cons (by simp only [List.getElem?_toArray, List.getElem?_cons_succ, List.getElem?_cons_zero]; first | done | rfl) (fun K hK => ?_) ?_
        · skip
          refine step_call (by rfl) (check_any y p.r p.s _ (msgP p) _ y0 y1 OK.out.r.1 OK.out.r.2 OK.out.s.1 OK.out.s.2 (by repeat (first | exact HU.out | apply rd_drew | apply rd_drewN | apply rd_alloc)) (by have := OK.out.nm; rw [msgP_length]; omega)) (by go_simp; all_goals first | rfl | (simp only [IntKind.wrap_u64]; rfl)) ?_
          rintro e v2 ⟨rfl, hb2⟩
          refine ⟨_, rfl, ?_⟩
          have HH' := Lib.hid (PA.below (by repeat (first | exact HH.out | apply PA.drew | apply PA.drewN | apply PA.alloc)) hb2)
          have HB' := Lib.hid (bl_bl (by repeat (first | exact HB.out | apply bl_drew | apply bl_drewN | apply bl_alloc)) hb2)
          clear hb2
          have HH := HH'
          have HB := HB'
          clear HH' HB'
          refine hK.out _ _ ?_ (fun hHeld => ?_)
          · (try dsimp only); (repeat (first | exact HH.out | apply PA.drew | apply PA.drewN | apply PA.alloc))
          clear hK K
          try simp only [Act.put, List.setIfInBounds_toArray, List.set_cons_zero, List.set_cons_succ]
          refine wpAnyH_take (i := 9) (v := ?_) (by simp only [List.getElem?_toArray, List.getElem?_cons_succ, List.getElem?_cons_zero]; first | done | rfl) (by kernel_rfl) (by kernel_rfl) (by kernel_rfl) (fun _ _ _ h => h) (Or.inl ⟨by rfl, ?hy⟩) (by assumption) ?_
          case hy => (intro w hSw; (try dsimp only at hSw); have c5 := hSw.c5; have c6 := hSw.c6; go_simp; all_goals with_reducible rfl)
          try simp only [Act.put, List.setIfInBounds_toArray, List.set_cons_zero, List.set_cons_succ]
          refine wpAnyH_take (i := 10) (v := ?_) (by simp only [List.getElem?_toArray, List.getElem?_cons_succ, List.getElem?_cons_zero]; first | done | rfl) (by kernel_rfl) (by kernel_rfl) (by kernel_rfl) (fun _ _ _ h => h) (Or.inl ⟨by rfl, ?hy⟩) (by assumption) ?_
          case hy => (intro w hSw; (try dsimp only at hSw); have c5 := hSw.c5; have c6 := hSw.c6; go_simp; all_goals with_reducible rfl)
          try simp only [Act.put, List.setIfInBounds_toArray, List.set_cons_zero, List.set_cons_succ]
          refine wpAnyH_done (by kernel_rfl) ?_ _
          refine NoPanic.normal ?_
          go_wp2_with fail
          go_ret
          exact ⟨rfl, HB.out⟩
        exact AllReadyH.nil
      exact AllReadyH.nil
    exact AllReadyH.nil

/-- What Put tells. -/
def GivesPutP (w : World) (p : Pr) (e : Ending) (w' : World) : Prop := ∃ v, e = .returned (.tuple #[v, .int .i64 (putPErr p)]) ∧ Rd w' v (putPOut p) ∧ Below w.heap.size w w'
set_option maxRecDepth 100000 in
set_option maxHeartbeats 32000000 in
theorem putP_any (p : Pr) (w : World) (ok : p.ok) : Calls Try.prog 14 #[prV p] w (GivesPutP w p) := by
  show Calls _ _ #[.agg p.cells.toArray] w _
  have OK := Lib.hid ok
  clear ok
  unfold GivesPutP putPErr putPOut
  cases hr : rightP p with
  | false =>
    have HR := Lib.hid hr
    clear hr
    simp only [Bool.false_eq_true, if_false]
    go_enter Try.func14, Try.ntmps14
    go_upto_region 1 with fail
    refine wp_world (fun W => PA w.heap.size p W ∧ Below w.heap.size w W) ⟨PA.new _ _, bl_alloc (Below.refl _ _) _⟩ ?_
    rintro W ⟨hA, hB⟩
    have HH := Lib.hid hA
    have HB := Lib.hid hB
    clear hA hB
    go_wp2_with (refine wpList_load_row rfl 31 (.tmp 1) rfl w.heap.size rfl 31 _ (0, 0) _ HH.out.row Try.underlying31 rfl (pr_size _) ?_)
    refine (rightP_any p _).mono ?_
    rintro e v2 ⟨rfl, hb2⟩
    rw [HR.out]
    have HH2 := Lib.hid (HH.out.below hb2)
    have HB2 := Lib.hid (bl_bl HB.out hb2)
    clear hb2 HH HB
    have HH := HH2
    have HB := HB2
    clear HH2 HB2
    go_wp2_with fail
    go_ret2
    exact ⟨_, rfl, Rd.nil _, HB.out⟩
  | true =>
    have HR := Lib.hid hr
    have HF := Lib.hid (show [msgP p, putF p.r p.s].flatten = bytesP p by simp [bytesP])
    clear hr
    simp only [if_true]
    go_enter Try.func14, Try.ntmps14
    go_upto_region 1 with fail
    refine wp_world (fun W => PA w.heap.size p W ∧ Below w.heap.size w W) ⟨PA.new _ _, bl_alloc (Below.refl _ _) _⟩ ?_
    rintro W ⟨hA, hB⟩
    have HH := Lib.hid hA
    have HB := Lib.hid hB
    clear hA hB
    go_wp2_with (refine wpList_load_row rfl 31 (.tmp 1) rfl w.heap.size rfl 31 _ (0, 0) _ HH.out.row Try.underlying31 rfl (pr_size _) ?_)
    refine (rightP_any p _).mono ?_
    rintro e v2 ⟨rfl, hb2⟩
    rw [HR.out]
    have HH2 := Lib.hid (HH.out.below hb2)
    have HB2 := Lib.hid (bl_bl HB.out hb2)
    clear hb2 HH HB
    have HH := HH2
    have HB := HB2
    clear HH2 HB2
    go_upto_region 3 with fail
    refine wp_region_noPanic ?_
    refine wp_region_held_drew (S := (fun w' => PA w.heap.size p w')) (by kernel_rfl) ?_ (fun hHeld => ?_)
    · (try dsimp only); (repeat (first | exact HH.out | apply PA.drew | apply PA.drewN | apply PA.alloc))
    refine wpAnyH_take (i := 0) (by simp only [List.getElem?_toArray, List.getElem?_cons_succ, List.getElem?_cons_zero]; first | done | rfl) (by kernel_rfl) (by kernel_rfl) (by kernel_rfl) (fun _ _ _ h => h) (yields_pr (by rfl) _ rfl w.heap.size p rfl (fun w hw => hw)) (by assumption) ?_
    try simp only [Act.put, List.setIfInBounds_toArray, List.set_cons_zero, List.set_cons_succ]
    refine wpAnyH_take (i := 2) (v := ?_) (by simp only [List.getElem?_toArray, List.getElem?_cons_succ, List.getElem?_cons_zero]; first | done | rfl) (by kernel_rfl) (by kernel_rfl) (by kernel_rfl) (fun _ _ _ h => h) (Or.inl ⟨by rfl, ?hy⟩) (by assumption) ?_
    case hy => (intro w hSw; (try dsimp only at hSw); have c5 := hSw.c5; have c6 := hSw.c6; go_simp; all_goals with_reducible rfl)
    try simp only [Act.put, List.setIfInBounds_toArray, List.set_cons_zero, List.set_cons_succ]
    refine wpAnyH_take (i := 3) (v := ?_) (by simp only [List.getElem?_toArray, List.getElem?_cons_succ, List.getElem?_cons_zero]; first | done | rfl) (by kernel_rfl) (by kernel_rfl) (by kernel_rfl) (fun _ _ _ h => h) (Or.inl ⟨by rfl, ?hy⟩) (by assumption) ?_
    case hy => (intro w hSw; (try dsimp only at hSw); have c5 := hSw.c5; have c6 := hSw.c6; go_simp; all_goals with_reducible rfl)
    try simp only [Act.put, List.setIfInBounds_toArray, List.set_cons_zero, List.set_cons_succ]
    refine wpAnyH_ready (rs := [1]) (by kernel_rfl) (by simp) ?_
    refine AllReadyH.cons (by simp only [List.getElem?_toArray, List.getElem?_cons_succ, List.getElem?_cons_zero]; first | done | rfl) (fun K hK => ?_) ?_
    · skip
      refine step_call (by rfl) (msgP_any p _ OK.out) (by go_simp; all_goals first | rfl | (simp only [IntKind.wrap_u64]; rfl)) ?_
      rintro e v2 ⟨u2, rfl, hu2, hb2⟩
      refine ⟨_, rfl, ?_⟩
      obtain ⟨b2, c2, rfl⟩ := hu2.rd.shape
      have HU := Lib.hid hu2.rd
      clear hu2
      have HH' := Lib.hid (PA.below (by repeat (first | exact HH.out | apply PA.drew | apply PA.drewN | apply PA.alloc)) hb2)
      have HB' := Lib.hid (bl_bl (by repeat (first | exact HB.out | apply bl_drew | apply bl_drewN | apply bl_alloc)) hb2)
      clear hb2
      have HH := HH'
      have HB := HB'
      clear HH' HB'
      refine hK.out _ _ ?_ (fun hHeld => ?_)
      · (try dsimp only); (repeat (first | exact HH.out | apply PA.drew | apply PA.drewN | apply PA.alloc))
      clear hK K
      try simp only [Act.put, List.setIfInBounds_toArray, List.set_cons_zero, List.set_cons_succ]
      refine wpAnyH_ready (rs := [4]) (by kernel_rfl) (by simp) ?_
      refine AllReadyH.cons (by simp only [List.getElem?_toArray, List.getElem?_cons_succ, List.getElem?_cons_zero]; first | done | rfl) (fun K hK => ?_) ?_
      · skip
        refine step_call (by rfl) (put_any p.r p.s _ OK.out.r.1 OK.out.r.2 OK.out.s.1 OK.out.s.2) (by go_simp; all_goals first | rfl | (simp only [IntKind.wrap_u64]; rfl)) ?_
        rintro e v2 ⟨u2, rfl, hu2, hb2⟩
        refine ⟨_, rfl, ?_⟩
        obtain ⟨b2, c2, rfl⟩ := hu2.rd.shape
        have HV := Lib.hid hu2.rd
        clear hu2
        have HH' := Lib.hid (PA.below (by repeat (first | exact HH.out | apply PA.drew | apply PA.drewN | apply PA.alloc)) hb2)
        have HB' := Lib.hid (bl_bl (by repeat (first | exact HB.out | apply bl_drew | apply bl_drewN | apply bl_alloc)) hb2)
        have HU' := Lib.hid (Rd.below (by repeat (first | exact HU.out | apply rd_drew | apply rd_drewN | apply rd_alloc)) hb2)
        clear hb2
        have HH := HH'
        have HB := HB'
        have HU := HU'
        clear HH' HB' HU'
        refine hK.out _ _ ?_ (fun hHeld => ?_)
        · (try dsimp only); (repeat (first | exact HH.out | apply PA.drew | apply PA.drewN | apply PA.alloc))
        clear hK K
        try simp only [Act.put, List.setIfInBounds_toArray, List.set_cons_zero, List.set_cons_succ]
        refine wpAnyH_ready (rs := [5]) (by kernel_rfl) (by simp) ?_
        refine AllReadyH.cons (by simp only [List.getElem?_toArray, List.getElem?_cons_succ, List.getElem?_cons_zero]; first | done | rfl) (fun K hK => ?_) ?_
        · go_simp
          skip
          refine k_world (fun W' => Below v2.heap.size v2 W' ∧ RdL W' (.slice (some ⟨_, 0, none⟩) 2 2) [msgP p, putF p.r p.s]) ⟨(by repeat (first | exact Below.refl _ _ | apply bl_drew | apply bl_drewN | apply bl_alloc)), rdl_two _ _ (by repeat (first | exact HU.out | apply rd_drew | apply rd_drewN | apply rd_alloc)) (by repeat (first | exact HV.out | apply rd_drew | apply rd_drewN | apply rd_alloc))⟩ ?_
          rintro v2 ⟨hb2, hl⟩
          have HRL := Lib.hid hl
          clear hl
          have HH' := Lib.hid (PA.below (by repeat (first | exact HH.out | apply PA.drew | apply PA.drewN | apply PA.alloc)) hb2)
          have HB' := Lib.hid (bl_bl (by repeat (first | exact HB.out | apply bl_drew | apply bl_drewN | apply bl_alloc)) hb2)
          clear hb2
          have HH := HH'
          have HB := HB'
          clear HH' HB'
          refine hK.out _ _ ?_ (fun hHeld => ?_)
          · (try dsimp only); (repeat (first | exact HH.out | apply PA.drew | apply PA.drewN | apply PA.alloc))
          clear hK K
          try simp only [Act.put, List.setIfInBounds_toArray, List.set_cons_zero, List.set_cons_succ]
          refine wpAnyH_ready (rs := [6]) (by kernel_rfl) (by simp) ?_
          refine AllReadyH.cons (by simp only [List.getElem?_toArray, List.getElem?_cons_succ, List.getElem?_cons_zero]; first | done | rfl) (fun K hK => ?_) ?_
          · skip
            refine step_call (by rfl) (join_any _ [msgP p, putF p.r p.s] _ HRL.out (by have := OK.out.nm; simp [totalLen, msgP_length, putF_len]; omega) (by simp)) (by go_simp; all_goals first | rfl | (simp only [IntKind.wrap_u64]; rfl)) ?_
            rintro e v2 ⟨u2, rfl, hu2, hb2⟩
            refine ⟨_, rfl, ?_⟩
            rw [HF.out] at hu2
            obtain ⟨b2, c2, rfl⟩ := hu2.rd.shape
            have HO := Lib.hid hu2.rd
            clear hu2
            have HH' := Lib.hid (PA.below (by repeat (first | exact HH.out | apply PA.drew | apply PA.drewN | apply PA.alloc)) hb2)
            have HB' := Lib.hid (bl_bl (by repeat (first | exact HB.out | apply bl_drew | apply bl_drewN | apply bl_alloc)) hb2)
            clear hb2
            have HH := HH'
            have HB := HB'
            clear HH' HB'
            refine hK.out _ _ ?_ (fun hHeld => ?_)
            · (try dsimp only); (repeat (first | exact HH.out | apply PA.drew | apply PA.drewN | apply PA.alloc))
            clear hK K
            try simp only [Act.put, List.setIfInBounds_toArray, List.set_cons_zero, List.set_cons_succ]
            refine wpAnyH_take (i := 7) (v := ?_) (by simp only [List.getElem?_toArray, List.getElem?_cons_succ, List.getElem?_cons_zero]; first | done | rfl) (by kernel_rfl) (by kernel_rfl) (by kernel_rfl) (fun _ _ _ h => h) (Or.inl ⟨by rfl, ?hy⟩) (by assumption) ?_
            case hy => (intro w hSw; (try dsimp only at hSw); have c5 := hSw.c5; have c6 := hSw.c6; go_simp; all_goals with_reducible rfl)
            try simp only [Act.put, List.setIfInBounds_toArray, List.set_cons_zero, List.set_cons_succ]
            refine wpAnyH_take (i := 8) (v := ?_) (by simp only [List.getElem?_toArray, List.getElem?_cons_succ, List.getElem?_cons_zero]; first | done | rfl) (by kernel_rfl) (by kernel_rfl) (by kernel_rfl) (fun _ _ _ h => h) (Or.inl ⟨by rfl, ?hy⟩) (by assumption) ?_
            case hy => (intro w hSw; (try dsimp only at hSw); have c5 := hSw.c5; have c6 := hSw.c6; go_simp; all_goals with_reducible rfl)
            try simp only [Act.put, List.setIfInBounds_toArray, List.set_cons_zero, List.set_cons_succ]
            refine wpAnyH_done (by kernel_rfl) ?_ _
            refine NoPanic.normal ?_
            go_wp2_with fail
            go_ret2
            exact ⟨_, rfl, HO.out, HB.out⟩
          exact AllReadyH.nil
        exact AllReadyH.nil
      exact AllReadyH.nil
    exact AllReadyH.nil
end Go.Proofs.Ytbhkcgnlegmjlaa
