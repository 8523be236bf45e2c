/-
  Requests: messages, signatures, bytes, the program's and the reference's.
-/
import Derived.Test.YtkkgjmfnlabbdaaUpR
namespace Go.Proofs.Ytkkgjmfnlabbdaa
set_option linter.unusedVariables false
set_option linter.unusedSimpArgs false
open Go.RowKit
attribute [local irreducible] checkF putF

theorem rdl_five (w : World) {u1 u2 u3 u4 u5 : Value} {l1 l2 l3 l4 l5 : List UInt8} (T : TypeId) (h1 : Rd w u1 l1) (h2 : Rd w u2 l2) (h3 : Rd w u3 l3) (h4 : Rd w u4 l4) (h5 : Rd w u5 l5) :
    RdL (w.alloc (.cells #[u1, u2, u3, u4, u5] T)) (.slice (some ⟨w.heap.size, 0, none⟩) 5 5) [l1, l2, l3, l4, l5] := by
  refine .inr ⟨_, 0, 5, rfl, by simp, by decide, fun i hi => ?_⟩
  have hb := bl_alloc (Below.refl w.heap.size w) (.cells #[u1, u2, u3, u4, u5] T)
  rw [Nat.zero_add, cell_of_row _ _ _ _ _ _ (heap_alloc_new _ _)]
  match i, hi with
  | 0, _ => exact ⟨_, rfl, h1.below hb⟩
  | 1, _ => exact ⟨_, rfl, h2.below hb⟩
  | 2, _ => exact ⟨_, rfl, h3.below hb⟩
  | 3, _ => exact ⟨_, rfl, h4.below hb⟩
  | 4, _ => exact ⟨_, rfl, h5.below hb⟩
theorem UA.range {g : Nat} {u : Up} {w : World} (k : UA g u w) : w.rangeAt g 0 u.cells := fun j v hv => by
  rw [cell_of_row _ _ _ _ _ _ k.row, Nat.zero_add, List.getElem?_toArray]
  exact hv
theorem yields_up {ops : Array Oper} {S : World → Prop} {op : Oper} {a : Act} (hw : Region.wanted op (yielded ops a.tmps) = true) (x : Operand) (ho : op.op = .load 27 x) (g : Nat) (u : Up)
    (hx : a.eval x = .pointer (some ⟨g, 0, none⟩)) (hS : ∀ w, S w → UA g u w) : YieldsIf Try.prog ops S op (upV u) a :=
  yieldsIf_load_mid hw 27 x ho g 0 hx u.cells _ (fun w hw' => (hS w hw').range) Try.underlying27 rfl (by rw [up_size u, List.size_toArray])
theorem UA.setSig {g : Nat} {u : Up} {w : World} (k : UA g u w) (r s : Int) : UA g { u with r := r, s := s } ((w.setCell ⟨g, 4, none⟩ (.int .u64 r)).setCell ⟨g, 5, none⟩ (.int .u64 s)) := by
  refine ⟨?_⟩
  rw [heap_setCell_same _ _ _ _ _ _ (heap_setCell_same _ _ _ _ _ _ k.row)]
  rfl
theorem signU_val (x : Int) (m : List UInt8) : signV x m = .agg #[.int .u64 (sigR (x % 2305843009213693950) m), .int .u64 (sigS (x % 2305843009213693950) m)] := rfl

set_option maxRecDepth 100000 in
set_option maxHeartbeats 3200000 in
theorem msgE_any (n : List UInt8) (v k : Int) (w : World) (hn : n.length ≤ 1048576) (hk : isU64 k) : Calls Try.prog 38 #[entV n v k] w (GivesOwn w (msgE n v k)) := by
  show Calls _ _ #[.agg (entCells n v k).toArray] w _
  have HLN := Lib.hid (show n.length ≤ 1099511627776 by omega)
  have HLN := Lib.hid (show n.length ≤ 1099511627776 by omega)
  have HLM := Lib.hid hn
  clear hn
  go_enter Try.func38, Try.ntmps38
  go_upto_region 1 with fail
  refine wp_world (fun W => EA w.heap.size n v k W ∧ Below w.heap.size w W) ⟨EA.new _ _ _ _, bl_alloc (Below.refl _ _) _⟩ ?_
  rintro W ⟨hA, hB⟩
  have HH := Lib.hid hA
  have HB := Lib.hid hB
  clear hA hB
  have HF := Lib.hid (show [[byt 85], lumpB n, numB (u64 v), numB k].flatten = msgE n v k by simp [msgE, fieldsE])
  refine wp_region_noPanic ?_
  refine wp_region_held_drew (S := (fun w' => EA w.heap.size n v k w')) (by kernel_rfl) ?_ (fun hHeld => ?_)
  · (try dsimp only); (repeat (first | exact HH.out | apply EA.drew | apply EA.drewN | apply EA.alloc))
  refine wpAnyH_take (i := 1) (v := ?_) (by simp only [List.getElem?_toArray, List.getElem?_cons_succ, List.getElem?_cons_zero]; first | done | rfl) (by kernel_rfl) (by kernel_rfl) (by kernel_rfl) (fun _ _ _ h => h) (Or.inl ⟨by rfl, ?hy⟩) (by assumption) ?_
  case hy => (intro w hSw; (try dsimp only at hSw); have c0 := hSw.c0; have c1 := hSw.c1; have c2 := hSw.c2; go_simp; all_goals with_reducible rfl)
  try simp only [Act.put, List.setIfInBounds_toArray, List.set_cons_zero, List.set_cons_succ]
  refine wpAnyH_take (i := 2) (v := ?_) (by simp only [List.getElem?_toArray, List.getElem?_cons_succ, List.getElem?_cons_zero]; first | done | rfl) (by kernel_rfl) (by kernel_rfl) (by kernel_rfl) (fun _ _ _ h => h) (Or.inl ⟨by rfl, ?hy⟩) (by assumption) ?_
  case hy => (intro w hSw; (try dsimp only at hSw); have c0 := hSw.c0; have c1 := hSw.c1; have c2 := hSw.c2; go_simp; all_goals with_reducible rfl)
  try simp only [Act.put, List.setIfInBounds_toArray, List.set_cons_zero, List.set_cons_succ]
  refine wpAnyH_take (i := 5) (v := ?_) (by simp only [List.getElem?_toArray, List.getElem?_cons_succ, List.getElem?_cons_zero]; first | done | rfl) (by kernel_rfl) (by kernel_rfl) (by kernel_rfl) (fun _ _ _ h => h) (Or.inl ⟨by rfl, ?hy⟩) (by assumption) ?_
  case hy => (intro w hSw; (try dsimp only at hSw); have c0 := hSw.c0; have c1 := hSw.c1; have c2 := hSw.c2; go_simp; all_goals with_reducible rfl)
  try simp only [Act.put, List.setIfInBounds_toArray, List.set_cons_zero, List.set_cons_succ]
  refine wpAnyH_take (i := 6) (v := ?_) (by simp only [List.getElem?_toArray, List.getElem?_cons_succ, List.getElem?_cons_zero]; first | done | rfl) (by kernel_rfl) (by kernel_rfl) (by kernel_rfl) (fun _ _ _ h => h) (Or.inl ⟨by rfl, ?hy⟩) (by assumption) ?_
  case hy => (intro w hSw; (try dsimp only at hSw); have c0 := hSw.c0; have c1 := hSw.c1; have c2 := hSw.c2; go_simp; all_goals with_reducible rfl)
  try simp only [Act.put, List.setIfInBounds_toArray, List.set_cons_zero, List.set_cons_succ]
  refine wpAnyH_take (i := 7) (v := ?_) (by simp only [List.getElem?_toArray, List.getElem?_cons_succ, List.getElem?_cons_zero]; first | done | rfl) (by kernel_rfl) (by kernel_rfl) (by kernel_rfl) (fun _ _ _ h => h) (Or.inl ⟨by rfl, ?hy⟩) (by assumption) ?_
  case hy => (intro w hSw; (try dsimp only at hSw); have c0 := hSw.c0; have c1 := hSw.c1; have c2 := hSw.c2; go_simp; all_goals with_reducible rfl)
  try simp only [Act.put, List.setIfInBounds_toArray, List.set_cons_zero, List.set_cons_succ]
  refine wpAnyH_take (i := 9) (v := ?_) (by simp only [List.getElem?_toArray, List.getElem?_cons_succ, List.getElem?_cons_zero]; first | done | rfl) (by kernel_rfl) (by kernel_rfl) (by kernel_rfl) (fun _ _ _ h => h) (Or.inl ⟨by rfl, ?hy⟩) (by assumption) ?_
  case hy => (intro w hSw; (try dsimp only at hSw); have c0 := hSw.c0; have c1 := hSw.c1; have c2 := hSw.c2; go_simp; all_goals with_reducible rfl)
  try simp only [Act.put, List.setIfInBounds_toArray, List.set_cons_zero, List.set_cons_succ]
  refine wpAnyH_take (i := 10) (v := ?_) (by simp only [List.getElem?_toArray, List.getElem?_cons_succ, List.getElem?_cons_zero]; first | done | rfl) (by kernel_rfl) (by kernel_rfl) (by kernel_rfl) (fun _ _ _ h => h) (Or.inl ⟨by rfl, ?hy⟩) (by assumption) ?_
  case hy => (intro w hSw; (try dsimp only at hSw); have c0 := hSw.c0; have c1 := hSw.c1; have c2 := hSw.c2; go_simp; all_goals with_reducible rfl)
  try simp only [Act.put, List.setIfInBounds_toArray, List.set_cons_zero, List.set_cons_succ]
  refine wpAnyH_ready (rs := [0, 3]) (by kernel_rfl) (by simp) ?_
  refine AllReadyH.cons (by simp only [List.getElem?_toArray, List.getElem?_cons_succ, List.getElem?_cons_zero]; first | done | rfl) (fun K hK => ?_) ?_
  · go_simp
    refine k_world (fun W' => Below W.heap.size W W' ∧ Rd W' (.slice (some ⟨_, 0, none⟩) 1 1) [byt 85]) ⟨(by repeat (first | exact Below.refl _ _ | apply bl_drew | apply bl_drewN | apply bl_alloc)), (by first | exact rd_one _ 85 (by omega) (by omega) | exact rd_drew (rd_one _ 85 (by omega) (by omega)))⟩ ?_
    rintro v2 ⟨hb2, hl⟩
    have HL := Lib.hid hl
    clear hl
    have HH' := Lib.hid (EA.below (by repeat (first | exact HH.out | apply EA.drew | apply EA.drewN | apply EA.alloc)) hb2)
    have HB' := Lib.hid (bl_bl (by repeat (first | exact HB.out | apply bl_drew | apply bl_drewN | apply bl_alloc)) hb2)
    clear hb2
    have HH := HH'
    have HB := HB'
    clear HH' HB'
    refine hK.out _ _ ?_ (fun hHeld => ?_)
    · (try dsimp only); (repeat (first | exact HH.out | apply EA.drew | apply EA.drewN | apply EA.alloc))
    clear hK K
    try simp only [Act.put, List.setIfInBounds_toArray, List.set_cons_zero, List.set_cons_succ]
    refine wpAnyH_ready (rs := [3]) (by kernel_rfl) (by simp) ?_
    refine AllReadyH.cons (by simp only [List.getElem?_toArray, List.getElem?_cons_succ, List.getElem?_cons_zero]; first | done | rfl) (fun K hK => ?_) ?_
    · skip
      refine step_conv_sb rfl (.tmp 5) rfl rfl HLN.out ?_
      intro u2 v2 hu2 hb2
      obtain ⟨b2, c2, rfl⟩ := hu2.shape
      have HC := Lib.hid hu2
      clear hu2
      have HH' := Lib.hid (EA.below (by repeat (first | exact HH.out | apply EA.drew | apply EA.drewN | apply EA.alloc)) hb2)
      have HB' := Lib.hid (bl_bl (by repeat (first | exact HB.out | apply bl_drew | apply bl_drewN | apply bl_alloc)) hb2)
      have HL' := Lib.hid (Rd.below (by repeat (first | exact HL.out | apply rd_drew | apply rd_drewN | apply rd_alloc)) hb2)
      clear hb2
      have HH := HH'
      have HB := HB'
      have HL := HL'
      clear HH' HB' HL'
      refine hK.out _ _ ?_ (fun hHeld => ?_)
      · (try dsimp only); (repeat (first | exact HH.out | apply EA.drew | apply EA.drewN | apply EA.alloc))
      clear hK K
      try simp only [Act.put, List.setIfInBounds_toArray, List.set_cons_zero, List.set_cons_succ]
      refine wpAnyH_ready (rs := [4]) (by kernel_rfl) (by simp) ?_
      refine AllReadyH.cons (by simp only [List.getElem?_toArray, List.getElem?_cons_succ, List.getElem?_cons_zero]; first | done | rfl) (fun K hK => ?_) ?_
      · go_simp
        go_at_call 55
        refine (lump_any _ n _ (by repeat (first | exact HC.out | apply rd_drew | apply rd_drewN | apply rd_alloc)) (by have := HLM.out; omega)).mono ?_
        rintro e v2 ⟨u2, rfl, hu2, hb2⟩
        obtain ⟨b2, c2, rfl⟩ := hu2.rd.shape
        have HU1 := Lib.hid hu2.rd
        clear hu2
        have HH' := Lib.hid (EA.below (by repeat (first | exact HH.out | apply EA.drew | apply EA.drewN | apply EA.alloc)) hb2)
        have HB' := Lib.hid (bl_bl (by repeat (first | exact HB.out | apply bl_drew | apply bl_drewN | apply bl_alloc)) hb2)
        have HL' := Lib.hid (Rd.below (by repeat (first | exact HL.out | apply rd_drew | apply rd_drewN | apply rd_alloc)) hb2)
        have HC' := Lib.hid (Rd.below (by repeat (first | exact HC.out | apply rd_drew | apply rd_drewN | apply rd_alloc)) hb2)
        clear hb2
        have HH := HH'
        have HB := HB'
        have HL := HL'
        have HC := HC'
        clear HH' HB' HL' HC'
        refine hK.out _ _ ?_ (fun hHeld => ?_)
        · (try dsimp only); (repeat (first | exact HH.out | apply EA.drew | apply EA.drewN | apply EA.alloc))
        clear hK K
        try simp only [Act.put, List.setIfInBounds_toArray, List.set_cons_zero, List.set_cons_succ]
        refine wpAnyH_ready (rs := [8]) (by kernel_rfl) (by simp) ?_
        refine AllReadyH.cons (by simp only [List.getElem?_toArray, List.getElem?_cons_succ, List.getElem?_cons_zero]; first | done | rfl) (fun K hK => ?_) ?_
        · go_simp
          go_at_call 56
          refine (num_own (u64 v) _ (u64_bd _).1 (u64_bd _).2).mono ?_
          rintro e v2 ⟨u2, rfl, hu2, hb2⟩
          obtain ⟨b2, c2, rfl⟩ := hu2.rd.shape
          have HU2 := Lib.hid hu2.rd
          clear hu2
          have HH' := Lib.hid (EA.below (by repeat (first | exact HH.out | apply EA.drew | apply EA.drewN | apply EA.alloc)) hb2)
          have HB' := Lib.hid (bl_bl (by repeat (first | exact HB.out | apply bl_drew | apply bl_drewN | apply bl_alloc)) hb2)
          have HL' := Lib.hid (Rd.below (by repeat (first | exact HL.out | apply rd_drew | apply rd_drewN | apply rd_alloc)) hb2)
          have HC' := Lib.hid (Rd.below (by repeat (first | exact HC.out | apply rd_drew | apply rd_drewN | apply rd_alloc)) hb2)
          have HU1' := Lib.hid (Rd.below (by repeat (first | exact HU1.out | apply rd_drew | apply rd_drewN | apply rd_alloc)) hb2)
          clear hb2
          have HH := HH'
          have HB := HB'
          have HL := HL'
          have HC := HC'
          have HU1 := HU1'
          clear HH' HB' HL' HC' HU1'
          refine hK.out _ _ ?_ (fun hHeld => ?_)
          · (try dsimp only); (repeat (first | exact HH.out | apply EA.drew | apply EA.drewN | apply EA.alloc))
          clear hK K
          try simp only [Act.put, List.setIfInBounds_toArray, List.set_cons_zero, List.set_cons_succ]
          refine wpAnyH_ready (rs := [11]) (by kernel_rfl) (by simp) ?_
          refine AllReadyH.cons (by simp only [List.getElem?_toArray, List.getElem?_cons_succ, List.getElem?_cons_zero]; first | done | rfl) (fun K hK => ?_) ?_
          · go_simp
            go_at_call 56
            refine (num_own k _ hk.1 hk.2).mono ?_
            rintro e v2 ⟨u2, rfl, hu2, hb2⟩
            obtain ⟨b2, c2, rfl⟩ := hu2.rd.shape
            have HU3 := Lib.hid hu2.rd
            clear hu2
            have HH' := Lib.hid (EA.below (by repeat (first | exact HH.out | apply EA.drew | apply EA.drewN | apply EA.alloc)) hb2)
            have HB' := Lib.hid (bl_bl (by repeat (first | exact HB.out | apply bl_drew | apply bl_drewN | apply bl_alloc)) hb2)
            have HL' := Lib.hid (Rd.below (by repeat (first | exact HL.out | apply rd_drew | apply rd_drewN | apply rd_alloc)) hb2)
            have HC' := Lib.hid (Rd.below (by repeat (first | exact HC.out | apply rd_drew | apply rd_drewN | apply rd_alloc)) hb2)
            have HU1' := Lib.hid (Rd.below (by repeat (first | exact HU1.out | apply rd_drew | apply rd_drewN | apply rd_alloc)) hb2)
            have HU2' := Lib.hid (Rd.below (by repeat (first | exact HU2.out | apply rd_drew | apply rd_drewN | apply rd_alloc)) hb2)
            clear hb2
            have HH := HH'
            have HB := HB'
            have HL := HL'
            have HC := HC'
            have HU1 := HU1'
            have HU2 := HU2'
            clear HH' HB' HL' HC' HU1' HU2'
            refine hK.out _ _ ?_ (fun hHeld => ?_)
            · (try dsimp only); (repeat (first | exact HH.out | apply EA.drew | apply EA.drewN | apply EA.alloc))
            clear hK K
            try simp only [Act.put, List.setIfInBounds_toArray, List.set_cons_zero, List.set_cons_succ]
            refine wpAnyH_ready (rs := [12]) (by kernel_rfl) (by simp) ?_
            refine AllReadyH.cons (by simp only [List.getElem?_toArray, List.getElem?_cons_succ, List.getElem?_cons_zero]; first | done | rfl) (fun K hK => ?_) ?_
            · go_simp
              refine k_world (fun W' => Below v2.heap.size v2 W' ∧ RdL W' (.slice (some ⟨_, 0, none⟩) 4 4) [[byt 85], lumpB n, numB (u64 v), numB k]) ⟨(by repeat (first | exact Below.refl _ _ | apply bl_drew | apply bl_drewN | apply bl_alloc)), rdl_four _ _ (by repeat (first | exact HL.out | apply rd_drew | apply rd_drewN | apply rd_alloc)) (by repeat (first | exact HU1.out | apply rd_drew | apply rd_drewN | apply rd_alloc)) (by repeat (first | exact HU2.out | apply rd_drew | apply rd_drewN | apply rd_alloc)) (by repeat (first | exact HU3.out | apply rd_drew | apply rd_drewN | apply rd_alloc))⟩ ?_
              rintro v2 ⟨hb2, hl⟩
              have HRL := Lib.hid hl
              clear hl
              have HH' := Lib.hid (EA.below (by repeat (first | exact HH.out | apply EA.drew | apply EA.drewN | apply EA.alloc)) hb2)
              have HB' := Lib.hid (bl_bl (by repeat (first | exact HB.out | apply bl_drew | apply bl_drewN | apply bl_alloc)) hb2)
              have HL' := Lib.hid (Rd.below (by repeat (first | exact HL.out | apply rd_drew | apply rd_drewN | apply rd_alloc)) hb2)
              have HC' := Lib.hid (Rd.below (by repeat (first | exact HC.out | apply rd_drew | apply rd_drewN | apply rd_alloc)) hb2)
              have HU1' := Lib.hid (Rd.below (by repeat (first | exact HU1.out | apply rd_drew | apply rd_drewN | apply rd_alloc)) hb2)
              have HU2' := Lib.hid (Rd.below (by repeat (first | exact HU2.out | apply rd_drew | apply rd_drewN | apply rd_alloc)) hb2)
              have HU3' := Lib.hid (Rd.below (by repeat (first | exact HU3.out | apply rd_drew | apply rd_drewN | apply rd_alloc)) hb2)
              clear hb2
              have HH := HH'
              have HB := HB'
              have HL := HL'
              have HC := HC'
              have HU1 := HU1'
              have HU2 := HU2'
              have HU3 := HU3'
              clear HH' HB' HL' HC' HU1' HU2' HU3'
              refine hK.out _ _ ?_ (fun hHeld => ?_)
              · (try dsimp only); (repeat (first | exact HH.out | apply EA.drew | apply EA.drewN | apply EA.alloc))
              clear hK K
              try simp only [Act.put, List.setIfInBounds_toArray, List.set_cons_zero, List.set_cons_succ]
              refine wpAnyH_ready (rs := [13]) (by kernel_rfl) (by simp) ?_
              refine AllReadyH.cons (by simp only [List.getElem?_toArray, List.getElem?_cons_succ, List.getElem?_cons_zero]; first | done | rfl) (fun K hK => ?_) ?_
              · go_simp
                go_at_call 54
                refine (join_any _ [[byt 85], lumpB n, numB (u64 v), numB k] _ HRL.out (by have := HLM.out; simp [totalLen, numB_length, lumpB_length]; omega) (by simp)).mono ?_
                rintro e v2 ⟨u2, rfl, hu2, hb2⟩
                rw [HF.out] at hu2
                obtain ⟨b2, c2, rfl⟩ := hu2.rd.shape
                have HO := Lib.hid (hu2.mono (Below.size (by repeat (first | exact HB.out | apply bl_drew | apply bl_drewN | apply bl_alloc))))
                clear hu2
                have HH' := Lib.hid (EA.below (by repeat (first | exact HH.out | apply EA.drew | apply EA.drewN | apply EA.alloc)) hb2)
                have HB' := Lib.hid (bl_bl (by repeat (first | exact HB.out | apply bl_drew | apply bl_drewN | apply bl_alloc)) hb2)
                clear hb2
                have HH := HH'
                have HB := HB'
                clear HH' HB'
                refine hK.out _ _ ?_ (fun hHeld => ?_)
                · (try dsimp only); (repeat (first | exact HH.out | apply EA.drew | apply EA.drewN | apply EA.alloc))
                clear hK K
                try simp only [Act.put, List.setIfInBounds_toArray, List.set_cons_zero, List.set_cons_succ]
                refine wpAnyH_take (i := 14) (v := ?_) (by simp only [List.getElem?_toArray, List.getElem?_cons_succ, List.getElem?_cons_zero]; first | done | rfl) (by kernel_rfl) (by kernel_rfl) (by kernel_rfl) (fun _ _ _ h => h) (Or.inl ⟨by rfl, ?hy⟩) (by assumption) ?_
                case hy => (intro w hSw; (try dsimp only at hSw); have c0 := hSw.c0; have c1 := hSw.c1; have c2 := hSw.c2; go_simp; all_goals with_reducible rfl)
                try simp only [Act.put, List.setIfInBounds_toArray, List.set_cons_zero, List.set_cons_succ]
                refine wpAnyH_done (by kernel_rfl) ?_ _
                refine NoPanic.normal ?_
                go_wp2_with fail
                go_ret
                exact ⟨_, rfl, HO.out, HB.out⟩
              exact AllReadyH.nil
            exact AllReadyH.nil
          exact AllReadyH.nil
        exact AllReadyH.nil
      exact AllReadyH.nil
    exact AllReadyH.nil
  refine AllReadyH.cons (by simp only [List.getElem?_toArray, List.getElem?_cons_succ, List.getElem?_cons_zero]; first | done | rfl) (fun K hK => ?_) ?_
  · skip
    refine step_conv_sb rfl (.tmp 5) rfl rfl HLN.out ?_
    intro u2 v2 hu2 hb2
    obtain ⟨b2, c2, rfl⟩ := hu2.shape
    have HC := Lib.hid hu2
    clear hu2
    have HH' := Lib.hid (EA.below (by repeat (first | exact HH.out | apply EA.drew | apply EA.drewN | apply EA.alloc)) hb2)
    have HB' := Lib.hid (bl_bl (by repeat (first | exact HB.out | apply bl_drew | apply bl_drewN | apply bl_alloc)) hb2)
    clear hb2
    have HH := HH'
    have HB := HB'
    clear HH' HB'
    refine hK.out _ _ ?_ (fun hHeld => ?_)
    · (try dsimp only); (repeat (first | exact HH.out | apply EA.drew | apply EA.drewN | apply EA.alloc))
    clear hK K
    try simp only [Act.put, List.setIfInBounds_toArray, List.set_cons_zero, List.set_cons_succ]
    refine wpAnyH_ready (rs := [0, 4]) (by kernel_rfl) (by simp) ?_
    refine AllReadyH.cons (by simp only [List.getElem?_toArray, List.getElem?_cons_succ, List.getElem?_cons_zero]; first | done | rfl) (fun K hK => ?_) ?_
    · go_simp
      refine k_world (fun W' => Below v2.heap.size v2 W' ∧ Rd W' (.slice (some ⟨_, 0, none⟩) 1 1) [byt 85]) ⟨(by repeat (first | exact Below.refl _ _ | apply bl_drew | apply bl_drewN | apply bl_alloc)), (by first | exact rd_one _ 85 (by omega) (by omega) | exact rd_drew (rd_one _ 85 (by omega) (by omega)))⟩ ?_
      rintro v2 ⟨hb2, hl⟩
      have HL := Lib.hid hl
      clear hl
      have HH' := Lib.hid (EA.below (by repeat (first | exact HH.out | apply EA.drew | apply EA.drewN | apply EA.alloc)) hb2)
      have HB' := Lib.hid (bl_bl (by repeat (first | exact HB.out | apply bl_drew | apply bl_drewN | apply bl_alloc)) hb2)
      have HC' := Lib.hid (Rd.below (by repeat (first | exact HC.out | apply rd_drew | apply rd_drewN | apply rd_alloc)) hb2)
      clear hb2
      have HH := HH'
      have HB := HB'
      have HC := HC'
      clear HH' HB' HC'
      refine hK.out _ _ ?_ (fun hHeld => ?_)
      · (try dsimp only); (repeat (first | exact HH.out | apply EA.drew | apply EA.drewN | apply EA.alloc))
      clear hK K
      try simp only [Act.put, List.setIfInBounds_toArray, List.set_cons_zero, List.set_cons_succ]
      refine wpAnyH_ready (rs := [4]) (by kernel_rfl) (by simp) ?_
      refine AllReadyH.cons (by simp only [List.getElem?_toArray, List.getElem?_cons_succ, List.getElem?_cons_zero]; first | done | rfl) (fun K hK => ?_) ?_
      · go_simp
        go_at_call 55
        refine (lump_any _ n _ (by repeat (first | exact HC.out | apply rd_drew | apply rd_drewN | apply rd_alloc)) (by have := HLM.out; omega)).mono ?_
        rintro e v2 ⟨u2, rfl, hu2, hb2⟩
        obtain ⟨b2, c2, rfl⟩ := hu2.rd.shape
        have HU1 := Lib.hid hu2.rd
        clear hu2
        have HH' := Lib.hid (EA.below (by repeat (first | exact HH.out | apply EA.drew | apply EA.drewN | apply EA.alloc)) hb2)
        have HB' := Lib.hid (bl_bl (by repeat (first | exact HB.out | apply bl_drew | apply bl_drewN | apply bl_alloc)) hb2)
        have HL' := Lib.hid (Rd.below (by repeat (first | exact HL.out | apply rd_drew | apply rd_drewN | apply rd_alloc)) hb2)
        have HC' := Lib.hid (Rd.below (by repeat (first | exact HC.out | apply rd_drew | apply rd_drewN | apply rd_alloc)) hb2)
        clear hb2
        have HH := HH'
        have HB := HB'
        have HL := HL'
        have HC := HC'
        clear HH' HB' HL' HC'
        refine hK.out _ _ ?_ (fun hHeld => ?_)
        · (try dsimp only); (repeat (first | exact HH.out | apply EA.drew | apply EA.drewN | apply EA.alloc))
        clear hK K
        try simp only [Act.put, List.setIfInBounds_toArray, List.set_cons_zero, List.set_cons_succ]
        refine wpAnyH_ready (rs := [8]) (by kernel_rfl) (by simp) ?_
        refine AllReadyH.cons (by simp only [List.getElem?_toArray, List.getElem?_cons_succ, List.getElem?_cons_zero]; first | done | rfl) (fun K hK => ?_) ?_
        · go_simp
          go_at_call 56
          refine (num_own (u64 v) _ (u64_bd _).1 (u64_bd _).2).mono ?_
          rintro e v2 ⟨u2, rfl, hu2, hb2⟩
          obtain ⟨b2, c2, rfl⟩ := hu2.rd.shape
          have HU2 := Lib.hid hu2.rd
          clear hu2
          have HH' := Lib.hid (EA.below (by repeat (first | exact HH.out | apply EA.drew | apply EA.drewN | apply EA.alloc)) hb2)
          have HB' := Lib.hid (bl_bl (by repeat (first | exact HB.out | apply bl_drew | apply bl_drewN | apply bl_alloc)) hb2)
          have HL' := Lib.hid (Rd.below (by repeat (first | exact HL.out | apply rd_drew | apply rd_drewN | apply rd_alloc)) hb2)
          have HC' := Lib.hid (Rd.below (by repeat (first | exact HC.out | apply rd_drew | apply rd_drewN | apply rd_alloc)) hb2)
          have HU1' := Lib.hid (Rd.below (by repeat (first | exact HU1.out | apply rd_drew | apply rd_drewN | apply rd_alloc)) hb2)
          clear hb2
          have HH := HH'
          have HB := HB'
          have HL := HL'
          have HC := HC'
          have HU1 := HU1'
          clear HH' HB' HL' HC' HU1'
          refine hK.out _ _ ?_ (fun hHeld => ?_)
          · (try dsimp only); (repeat (first | exact HH.out | apply EA.drew | apply EA.drewN | apply EA.alloc))
          clear hK K
          try simp only [Act.put, List.setIfInBounds_toArray, List.set_cons_zero, List.set_cons_succ]
          refine wpAnyH_ready (rs := [11]) (by kernel_rfl) (by simp) ?_
          refine AllReadyH.cons (by simp only [List.getElem?_toArray, List.getElem?_cons_succ, List.getElem?_cons_zero]; first | done | rfl) (fun K hK => ?_) ?_
          · go_simp
            go_at_call 56
            refine (num_own k _ hk.1 hk.2).mono ?_
            rintro e v2 ⟨u2, rfl, hu2, hb2⟩
            obtain ⟨b2, c2, rfl⟩ := hu2.rd.shape
            have HU3 := Lib.hid hu2.rd
            clear hu2
            have HH' := Lib.hid (EA.below (by repeat (first | exact HH.out | apply EA.drew | apply EA.drewN | apply EA.alloc)) hb2)
            have HB' := Lib.hid (bl_bl (by repeat (first | exact HB.out | apply bl_drew | apply bl_drewN | apply bl_alloc)) hb2)
            have HL' := Lib.hid (Rd.below (by repeat (first | exact HL.out | apply rd_drew | apply rd_drewN | apply rd_alloc)) hb2)
            have HC' := Lib.hid (Rd.below (by repeat (first | exact HC.out | apply rd_drew | apply rd_drewN | apply rd_alloc)) hb2)
            have HU1' := Lib.hid (Rd.below (by repeat (first | exact HU1.out | apply rd_drew | apply rd_drewN | apply rd_alloc)) hb2)
            have HU2' := Lib.hid (Rd.below (by repeat (first | exact HU2.out | apply rd_drew | apply rd_drewN | apply rd_alloc)) hb2)
            clear hb2
            have HH := HH'
            have HB := HB'
            have HL := HL'
            have HC := HC'
            have HU1 := HU1'
            have HU2 := HU2'
            clear HH' HB' HL' HC' HU1' HU2'
            refine hK.out _ _ ?_ (fun hHeld => ?_)
            · (try dsimp only); (repeat (first | exact HH.out | apply EA.drew | apply EA.drewN | apply EA.alloc))
            clear hK K
            try simp only [Act.put, List.setIfInBounds_toArray, List.set_cons_zero, List.set_cons_succ]
            refine wpAnyH_ready (rs := [12]) (by kernel_rfl) (by simp) ?_
            refine AllReadyH.cons (by simp only [List.getElem?_toArray, List.getElem?_cons_succ, List.getElem?_cons_zero]; first | done | rfl) (fun K hK => ?_) ?_
            · go_simp
              refine k_world (fun W' => Below v2.heap.size v2 W' ∧ RdL W' (.slice (some ⟨_, 0, none⟩) 4 4) [[byt 85], lumpB n, numB (u64 v), numB k]) ⟨(by repeat (first | exact Below.refl _ _ | apply bl_drew | apply bl_drewN | apply bl_alloc)), rdl_four _ _ (by repeat (first | exact HL.out | apply rd_drew | apply rd_drewN | apply rd_alloc)) (by repeat (first | exact HU1.out | apply rd_drew | apply rd_drewN | apply rd_alloc)) (by repeat (first | exact HU2.out | apply rd_drew | apply rd_drewN | apply rd_alloc)) (by repeat (first | exact HU3.out | apply rd_drew | apply rd_drewN | apply rd_alloc))⟩ ?_
              rintro v2 ⟨hb2, hl⟩
              have HRL := Lib.hid hl
              clear hl
              have HH' := Lib.hid (EA.below (by repeat (first | exact HH.out | apply EA.drew | apply EA.drewN | apply EA.alloc)) hb2)
              have HB' := Lib.hid (bl_bl (by repeat (first | exact HB.out | apply bl_drew | apply bl_drewN | apply bl_alloc)) hb2)
              have HL' := Lib.hid (Rd.below (by repeat (first | exact HL.out | apply rd_drew | apply rd_drewN | apply rd_alloc)) hb2)
              have HC' := Lib.hid (Rd.below (by repeat (first | exact HC.out | apply rd_drew | apply rd_drewN | apply rd_alloc)) hb2)
              have HU1' := Lib.hid (Rd.below (by repeat (first | exact HU1.out | apply rd_drew | apply rd_drewN | apply rd_alloc)) hb2)
              have HU2' := Lib.hid (Rd.below (by repeat (first | exact HU2.out | apply rd_drew | apply rd_drewN | apply rd_alloc)) hb2)
              have HU3' := Lib.hid (Rd.below (by repeat (first | exact HU3.out | apply rd_drew | apply rd_drewN | apply rd_alloc)) hb2)
              clear hb2
              have HH := HH'
              have HB := HB'
              have HL := HL'
              have HC := HC'
              have HU1 := HU1'
              have HU2 := HU2'
              have HU3 := HU3'
              clear HH' HB' HL' HC' HU1' HU2' HU3'
              refine hK.out _ _ ?_ (fun hHeld => ?_)
              · (try dsimp only); (repeat (first | exact HH.out | apply EA.drew | apply EA.drewN | apply EA.alloc))
              clear hK K
              try simp only [Act.put, List.setIfInBounds_toArray, List.set_cons_zero, List.set_cons_succ]
              refine wpAnyH_ready (rs := [13]) (by kernel_rfl) (by simp) ?_
              refine AllReadyH.cons (by simp only [List.getElem?_toArray, List.getElem?_cons_succ, List.getElem?_cons_zero]; first | done | rfl) (fun K hK => ?_) ?_
              · go_simp
                go_at_call 54
                refine (join_any _ [[byt 85], lumpB n, numB (u64 v), numB k] _ HRL.out (by have := HLM.out; simp [totalLen, numB_length, lumpB_length]; omega) (by simp)).mono ?_
                rintro e v2 ⟨u2, rfl, hu2, hb2⟩
                rw [HF.out] at hu2
                obtain ⟨b2, c2, rfl⟩ := hu2.rd.shape
                have HO := Lib.hid (hu2.mono (Below.size (by repeat (first | exact HB.out | apply bl_drew | apply bl_drewN | apply bl_alloc))))
                clear hu2
                have HH' := Lib.hid (EA.below (by repeat (first | exact HH.out | apply EA.drew | apply EA.drewN | apply EA.alloc)) hb2)
                have HB' := Lib.hid (bl_bl (by repeat (first | exact HB.out | apply bl_drew | apply bl_drewN | apply bl_alloc)) hb2)
                clear hb2
                have HH := HH'
                have HB := HB'
                clear HH' HB'
                refine hK.out _ _ ?_ (fun hHeld => ?_)
                · (try dsimp only); (repeat (first | exact HH.out | apply EA.drew | apply EA.drewN | apply EA.alloc))
                clear hK K
                try simp only [Act.put, List.setIfInBounds_toArray, List.set_cons_zero, List.set_cons_succ]
                refine wpAnyH_take (i := 14) (v := ?_) (by simp only [List.getElem?_toArray, List.getElem?_cons_succ, List.getElem?_cons_zero]; first | done | rfl) (by kernel_rfl) (by kernel_rfl) (by kernel_rfl) (fun _ _ _ h => h) (Or.inl ⟨by rfl, ?hy⟩) (by assumption) ?_
                case hy => (intro w hSw; (try dsimp only at hSw); have c0 := hSw.c0; have c1 := hSw.c1; have c2 := hSw.c2; go_simp; all_goals with_reducible rfl)
                try simp only [Act.put, List.setIfInBounds_toArray, List.set_cons_zero, List.set_cons_succ]
                refine wpAnyH_done (by kernel_rfl) ?_ _
                refine NoPanic.normal ?_
                go_wp2_with fail
                go_ret
                exact ⟨_, rfl, HO.out, HB.out⟩
              exact AllReadyH.nil
            exact AllReadyH.nil
          exact AllReadyH.nil
        exact AllReadyH.nil
      exact AllReadyH.nil
    refine AllReadyH.cons (by simp only [List.getElem?_toArray, List.getElem?_cons_succ, List.getElem?_cons_zero]; first | done | rfl) (fun K hK => ?_) ?_
    · go_simp
      go_at_call 55
      refine (lump_any _ n _ (by repeat (first | exact HC.out | apply rd_drew | apply rd_drewN | apply rd_alloc)) (by have := HLM.out; omega)).mono ?_
      rintro e v2 ⟨u2, rfl, hu2, hb2⟩
      obtain ⟨b2, c2, rfl⟩ := hu2.rd.shape
      have HU1 := Lib.hid hu2.rd
      clear hu2
      have HH' := Lib.hid (EA.below (by repeat (first | exact HH.out | apply EA.drew | apply EA.drewN | apply EA.alloc)) hb2)
      have HB' := Lib.hid (bl_bl (by repeat (first | exact HB.out | apply bl_drew | apply bl_drewN | apply bl_alloc)) hb2)
      have HC' := Lib.hid (Rd.below (by repeat (first | exact HC.out | apply rd_drew | apply rd_drewN | apply rd_alloc)) hb2)
      clear hb2
      have HH := HH'
      have HB := HB'
      have HC := HC'
      clear HH' HB' HC'
      refine hK.out _ _ ?_ (fun hHeld => ?_)
      · (try dsimp only); (repeat (first | exact HH.out | apply EA.drew | apply EA.drewN | apply EA.alloc))
      clear hK K
      try simp only [Act.put, List.setIfInBounds_toArray, List.set_cons_zero, List.set_cons_succ]
      refine wpAnyH_ready (rs := [0, 8]) (by kernel_rfl) (by simp) ?_
      refine AllReadyH.cons (by simp only [List.getElem?_toArray, List.getElem?_cons_succ, List.getElem?_cons_zero]; first | done | rfl) (fun K hK => ?_) ?_
      · go_simp
        refine k_world (fun W' => Below v2.heap.size v2 W' ∧ Rd W' (.slice (some ⟨_, 0, none⟩) 1 1) [byt 85]) ⟨(by repeat (first | exact Below.refl _ _ | apply bl_drew | apply bl_drewN | apply bl_alloc)), (by first | exact rd_one _ 85 (by omega) (by omega) | exact rd_drew (rd_one _ 85 (by omega) (by omega)))⟩ ?_
        rintro v2 ⟨hb2, hl⟩
        have HL := Lib.hid hl
        clear hl
        have HH' := Lib.hid (EA.below (by repeat (first | exact HH.out | apply EA.drew | apply EA.drewN | apply EA.alloc)) hb2)
        have HB' := Lib.hid (bl_bl (by repeat (first | exact HB.out | apply bl_drew | apply bl_drewN | apply bl_alloc)) hb2)
        have HC' := Lib.hid (Rd.below (by repeat (first | exact HC.out | apply rd_drew | apply rd_drewN | apply rd_alloc)) hb2)
        have HU1' := Lib.hid (Rd.below (by repeat (first | exact HU1.out | apply rd_drew | apply rd_drewN | apply rd_alloc)) hb2)
        clear hb2
        have HH := HH'
        have HB := HB'
        have HC := HC'
        have HU1 := HU1'
        clear HH' HB' HC' HU1'
        refine hK.out _ _ ?_ (fun hHeld => ?_)
        · (try dsimp only); (repeat (first | exact HH.out | apply EA.drew | apply EA.drewN | apply EA.alloc))
        clear hK K
        try simp only [Act.put, List.setIfInBounds_toArray, List.set_cons_zero, List.set_cons_succ]
        refine wpAnyH_ready (rs := [8]) (by kernel_rfl) (by simp) ?_
        refine AllReadyH.cons (by simp only [List.getElem?_toArray, List.getElem?_cons_succ, List.getElem?_cons_zero]; first | done | rfl) (fun K hK => ?_) ?_
        · go_simp
          go_at_call 56
          refine (num_own (u64 v) _ (u64_bd _).1 (u64_bd _).2).mono ?_
          rintro e v2 ⟨u2, rfl, hu2, hb2⟩
          obtain ⟨b2, c2, rfl⟩ := hu2.rd.shape
          have HU2 := Lib.hid hu2.rd
          clear hu2
          have HH' := Lib.hid (EA.below (by repeat (first | exact HH.out | apply EA.drew | apply EA.drewN | apply EA.alloc)) hb2)
          have HB' := Lib.hid (bl_bl (by repeat (first | exact HB.out | apply bl_drew | apply bl_drewN | apply bl_alloc)) hb2)
          have HL' := Lib.hid (Rd.below (by repeat (first | exact HL.out | apply rd_drew | apply rd_drewN | apply rd_alloc)) hb2)
          have HC' := Lib.hid (Rd.below (by repeat (first | exact HC.out | apply rd_drew | apply rd_drewN | apply rd_alloc)) hb2)
          have HU1' := Lib.hid (Rd.below (by repeat (first | exact HU1.out | apply rd_drew | apply rd_drewN | apply rd_alloc)) hb2)
          clear hb2
          have HH := HH'
          have HB := HB'
          have HL := HL'
          have HC := HC'
          have HU1 := HU1'
          clear HH' HB' HL' HC' HU1'
          refine hK.out _ _ ?_ (fun hHeld => ?_)
          · (try dsimp only); (repeat (first | exact HH.out | apply EA.drew | apply EA.drewN | apply EA.alloc))
          clear hK K
          try simp only [Act.put, List.setIfInBounds_toArray, List.set_cons_zero, List.set_cons_succ]
          refine wpAnyH_ready (rs := [11]) (by kernel_rfl) (by simp) ?_
          refine AllReadyH.cons (by simp only [List.getElem?_toArray, List.getElem?_cons_succ, List.getElem?_cons_zero]; first | done | rfl) (fun K hK => ?_) ?_
          · go_simp
            go_at_call 56
            refine (num_own k _ hk.1 hk.2).mono ?_
            rintro e v2 ⟨u2, rfl, hu2, hb2⟩
            obtain ⟨b2, c2, rfl⟩ := hu2.rd.shape
            have HU3 := Lib.hid hu2.rd
            clear hu2
            have HH' := Lib.hid (EA.below (by repeat (first | exact HH.out | apply EA.drew | apply EA.drewN | apply EA.alloc)) hb2)
            have HB' := Lib.hid (bl_bl (by repeat (first | exact HB.out | apply bl_drew | apply bl_drewN | apply bl_alloc)) hb2)
            have HL' := Lib.hid (Rd.below (by repeat (first | exact HL.out | apply rd_drew | apply rd_drewN | apply rd_alloc)) hb2)
            have HC' := Lib.hid (Rd.below (by repeat (first | exact HC.out | apply rd_drew | apply rd_drewN | apply rd_alloc)) hb2)
            have HU1' := Lib.hid (Rd.below (by repeat (first | exact HU1.out | apply rd_drew | apply rd_drewN | apply rd_alloc)) hb2)
            have HU2' := Lib.hid (Rd.below (by repeat (first | exact HU2.out | apply rd_drew | apply rd_drewN | apply rd_alloc)) hb2)
            clear hb2
            have HH := HH'
            have HB := HB'
            have HL := HL'
            have HC := HC'
            have HU1 := HU1'
            have HU2 := HU2'
            clear HH' HB' HL' HC' HU1' HU2'
            refine hK.out _ _ ?_ (fun hHeld => ?_)
            · (try dsimp only); (repeat (first | exact HH.out | apply EA.drew | apply EA.drewN | apply EA.alloc))
            clear hK K
            try simp only [Act.put, List.setIfInBounds_toArray, List.set_cons_zero, List.set_cons_succ]
            refine wpAnyH_ready (rs := [12]) (by kernel_rfl) (by simp) ?_
            refine AllReadyH.cons (by simp only [List.getElem?_toArray, List.getElem?_cons_succ, List.getElem?_cons_zero]; first | done | rfl) (fun K hK => ?_) ?_
            · go_simp
              refine k_world (fun W' => Below v2.heap.size v2 W' ∧ RdL W' (.slice (some ⟨_, 0, none⟩) 4 4) [[byt 85], lumpB n, numB (u64 v), numB k]) ⟨(by repeat (first | exact Below.refl _ _ | apply bl_drew | apply bl_drewN | apply bl_alloc)), rdl_four _ _ (by repeat (first | exact HL.out | apply rd_drew | apply rd_drewN | apply rd_alloc)) (by repeat (first | exact HU1.out | apply rd_drew | apply rd_drewN | apply rd_alloc)) (by repeat (first | exact HU2.out | apply rd_drew | apply rd_drewN | apply rd_alloc)) (by repeat (first | exact HU3.out | apply rd_drew | apply rd_drewN | apply rd_alloc))⟩ ?_
              rintro v2 ⟨hb2, hl⟩
              have HRL := Lib.hid hl
              clear hl
              have HH' := Lib.hid (EA.below (by repeat (first | exact HH.out | apply EA.drew | apply EA.drewN | apply EA.alloc)) hb2)
              have HB' := Lib.hid (bl_bl (by repeat (first | exact HB.out | apply bl_drew | apply bl_drewN | apply bl_alloc)) hb2)
              have HL' := Lib.hid (Rd.below (by repeat (first | exact HL.out | apply rd_drew | apply rd_drewN | apply rd_alloc)) hb2)
              have HC' := Lib.hid (Rd.below (by repeat (first | exact HC.out | apply rd_drew | apply rd_drewN | apply rd_alloc)) hb2)
              have HU1' := Lib.hid (Rd.below (by repeat (first | exact HU1.out | apply rd_drew | apply rd_drewN | apply rd_alloc)) hb2)
              have HU2' := Lib.hid (Rd.below (by repeat (first | exact HU2.out | apply rd_drew | apply rd_drewN | apply rd_alloc)) hb2)
              have HU3' := Lib.hid (Rd.below (by repeat (first | exact HU3.out | apply rd_drew | apply rd_drewN | apply rd_alloc)) hb2)
              clear hb2
              have HH := HH'
              have HB := HB'
              have HL := HL'
              have HC := HC'
              have HU1 := HU1'
              have HU2 := HU2'
              have HU3 := HU3'
              clear HH' HB' HL' HC' HU1' HU2' HU3'
              refine hK.out _ _ ?_ (fun hHeld => ?_)
              · (try dsimp only); (repeat (first | exact HH.out | apply EA.drew | apply EA.drewN | apply EA.alloc))
              clear hK K
              try simp only [Act.put, List.setIfInBounds_toArray, List.set_cons_zero, List.set_cons_succ]
              refine wpAnyH_ready (rs := [13]) (by kernel_rfl) (by simp) ?_
              refine AllReadyH.cons (by simp only [List.getElem?_toArray, List.getElem?_cons_succ, List.getElem?_cons_zero]; first | done | rfl) (fun K hK => ?_) ?_
              · go_simp
                go_at_call 54
                refine (join_any _ [[byt 85], lumpB n, numB (u64 v), numB k] _ HRL.out (by have := HLM.out; simp [totalLen, numB_length, lumpB_length]; omega) (by simp)).mono ?_
                rintro e v2 ⟨u2, rfl, hu2, hb2⟩
                rw [HF.out] at hu2
                obtain ⟨b2, c2, rfl⟩ := hu2.rd.shape
                have HO := Lib.hid (hu2.mono (Below.size (by repeat (first | exact HB.out | apply bl_drew | apply bl_drewN | apply bl_alloc))))
                clear hu2
                have HH' := Lib.hid (EA.below (by repeat (first | exact HH.out | apply EA.drew | apply EA.drewN | apply EA.alloc)) hb2)
                have HB' := Lib.hid (bl_bl (by repeat (first | exact HB.out | apply bl_drew | apply bl_drewN | apply bl_alloc)) hb2)
                clear hb2
                have HH := HH'
                have HB := HB'
                clear HH' HB'
                refine hK.out _ _ ?_ (fun hHeld => ?_)
                · (try dsimp only); (repeat (first | exact HH.out | apply EA.drew | apply EA.drewN | apply EA.alloc))
                clear hK K
                try simp only [Act.put, List.setIfInBounds_toArray, List.set_cons_zero, List.set_cons_succ]
                refine wpAnyH_take (i := 14) (v := ?_) (by simp only [List.getElem?_toArray, List.getElem?_cons_succ, List.getElem?_cons_zero]; first | done | rfl) (by kernel_rfl) (by kernel_rfl) (by kernel_rfl) (fun _ _ _ h => h) (Or.inl ⟨by rfl, ?hy⟩) (by assumption) ?_
                case hy => (intro w hSw; (try dsimp only at hSw); have c0 := hSw.c0; have c1 := hSw.c1; have c2 := hSw.c2; go_simp; all_goals with_reducible rfl)
                try simp only [Act.put, List.setIfInBounds_toArray, List.set_cons_zero, List.set_cons_succ]
                refine wpAnyH_done (by kernel_rfl) ?_ _
                refine NoPanic.normal ?_
                go_wp2_with fail
                go_ret
                exact ⟨_, rfl, HO.out, HB.out⟩
              exact AllReadyH.nil
            exact AllReadyH.nil
          exact AllReadyH.nil
        exact AllReadyH.nil
      refine AllReadyH.cons (by simp only [List.getElem?_toArray, List.getElem?_cons_succ, List.getElem?_cons_zero]; first | done | rfl) (fun K hK => ?_) ?_
      · go_simp
        go_at_call 56
        refine (num_own (u64 v) _ (u64_bd _).1 (u64_bd _).2).mono ?_
        rintro e v2 ⟨u2, rfl, hu2, hb2⟩
        obtain ⟨b2, c2, rfl⟩ := hu2.rd.shape
        have HU2 := Lib.hid hu2.rd
        clear hu2
        have HH' := Lib.hid (EA.below (by repeat (first | exact HH.out | apply EA.drew | apply EA.drewN | apply EA.alloc)) hb2)
        have HB' := Lib.hid (bl_bl (by repeat (first | exact HB.out | apply bl_drew | apply bl_drewN | apply bl_alloc)) hb2)
        have HC' := Lib.hid (Rd.below (by repeat (first | exact HC.out | apply rd_drew | apply rd_drewN | apply rd_alloc)) hb2)
        have HU1' := Lib.hid (Rd.below (by repeat (first | exact HU1.out | apply rd_drew | apply rd_drewN | apply rd_alloc)) hb2)
        clear hb2
        have HH := HH'
        have HB := HB'
        have HC := HC'
        have HU1 := HU1'
        clear HH' HB' HC' HU1'
        refine hK.out _ _ ?_ (fun hHeld => ?_)
        · (try dsimp only); (repeat (first | exact HH.out | apply EA.drew | apply EA.drewN | apply EA.alloc))
        clear hK K
        try simp only [Act.put, List.setIfInBounds_toArray, List.set_cons_zero, List.set_cons_succ]
        refine wpAnyH_ready (rs := [0, 11]) (by kernel_rfl) (by simp) ?_
        refine AllReadyH.cons (by simp only [List.getElem?_toArray, List.getElem?_cons_succ, List.getElem?_cons_zero]; first | done | rfl) (fun K hK => ?_) ?_
        · go_simp
          refine k_world (fun W' => Below v2.heap.size v2 W' ∧ Rd W' (.slice (some ⟨_, 0, none⟩) 1 1) [byt 85]) ⟨(by repeat (first | exact Below.refl _ _ | apply bl_drew | apply bl_drewN | apply bl_alloc)), (by first | exact rd_one _ 85 (by omega) (by omega) | exact rd_drew (rd_one _ 85 (by omega) (by omega)))⟩ ?_
          rintro v2 ⟨hb2, hl⟩
          have HL := Lib.hid hl
          clear hl
          have HH' := Lib.hid (EA.below (by repeat (first | exact HH.out | apply EA.drew | apply EA.drewN | apply EA.alloc)) hb2)
          have HB' := Lib.hid (bl_bl (by repeat (first | exact HB.out | apply bl_drew | apply bl_drewN | apply bl_alloc)) hb2)
          have HC' := Lib.hid (Rd.below (by repeat (first | exact HC.out | apply rd_drew | apply rd_drewN | apply rd_alloc)) hb2)
          have HU1' := Lib.hid (Rd.below (by repeat (first | exact HU1.out | apply rd_drew | apply rd_drewN | apply rd_alloc)) hb2)
          have HU2' := Lib.hid (Rd.below (by repeat (first | exact HU2.out | apply rd_drew | apply rd_drewN | apply rd_alloc)) hb2)
          clear hb2
          have HH := HH'
          have HB := HB'
          have HC := HC'
          have HU1 := HU1'
          have HU2 := HU2'
          clear HH' HB' HC' HU1' HU2'
          refine hK.out _ _ ?_ (fun hHeld => ?_)
          · (try dsimp only); (repeat (first | exact HH.out | apply EA.drew | apply EA.drewN | apply EA.alloc))
          clear hK K
          try simp only [Act.put, List.setIfInBounds_toArray, List.set_cons_zero, List.set_cons_succ]
          refine wpAnyH_ready (rs := [11]) (by kernel_rfl) (by simp) ?_
          refine AllReadyH.cons (by simp only [List.getElem?_toArray, List.getElem?_cons_succ, List.getElem?_cons_zero]; first | done | rfl) (fun K hK => ?_) ?_
          · go_simp
            go_at_call 56
            refine (num_own k _ hk.1 hk.2).mono ?_
            rintro e v2 ⟨u2, rfl, hu2, hb2⟩
            obtain ⟨b2, c2, rfl⟩ := hu2.rd.shape
            have HU3 := Lib.hid hu2.rd
            clear hu2
            have HH' := Lib.hid (EA.below (by repeat (first | exact HH.out | apply EA.drew | apply EA.drewN | apply EA.alloc)) hb2)
            have HB' := Lib.hid (bl_bl (by repeat (first | exact HB.out | apply bl_drew | apply bl_drewN | apply bl_alloc)) hb2)
            have HL' := Lib.hid (Rd.below (by repeat (first | exact HL.out | apply rd_drew | apply rd_drewN | apply rd_alloc)) hb2)
            have HC' := Lib.hid (Rd.below (by repeat (first | exact HC.out | apply rd_drew | apply rd_drewN | apply rd_alloc)) hb2)
            have HU1' := Lib.hid (Rd.below (by repeat (first | exact HU1.out | apply rd_drew | apply rd_drewN | apply rd_alloc)) hb2)
            have HU2' := Lib.hid (Rd.below (by repeat (first | exact HU2.out | apply rd_drew | apply rd_drewN | apply rd_alloc)) hb2)
            clear hb2
            have HH := HH'
            have HB := HB'
            have HL := HL'
            have HC := HC'
            have HU1 := HU1'
            have HU2 := HU2'
            clear HH' HB' HL' HC' HU1' HU2'
            refine hK.out _ _ ?_ (fun hHeld => ?_)
            · (try dsimp only); (repeat (first | exact HH.out | apply EA.drew | apply EA.drewN | apply EA.alloc))
            clear hK K
            try simp only [Act.put, List.setIfInBounds_toArray, List.set_cons_zero, List.set_cons_succ]
            refine wpAnyH_ready (rs := [12]) (by kernel_rfl) (by simp) ?_
            refine AllReadyH.cons (by simp only [List.getElem?_toArray, List.getElem?_cons_succ, List.getElem?_cons_zero]; first | done | rfl) (fun K hK => ?_) ?_
            · go_simp
              refine k_world (fun W' => Below v2.heap.size v2 W' ∧ RdL W' (.slice (some ⟨_, 0, none⟩) 4 4) [[byt 85], lumpB n, numB (u64 v), numB k]) ⟨(by repeat (first | exact Below.refl _ _ | apply bl_drew | apply bl_drewN | apply bl_alloc)), rdl_four _ _ (by repeat (first | exact HL.out | apply rd_drew | apply rd_drewN | apply rd_alloc)) (by repeat (first | exact HU1.out | apply rd_drew | apply rd_drewN | apply rd_alloc)) (by repeat (first | exact HU2.out | apply rd_drew | apply rd_drewN | apply rd_alloc)) (by repeat (first | exact HU3.out | apply rd_drew | apply rd_drewN | apply rd_alloc))⟩ ?_
              rintro v2 ⟨hb2, hl⟩
              have HRL := Lib.hid hl
              clear hl
              have HH' := Lib.hid (EA.below (by repeat (first | exact HH.out | apply EA.drew | apply EA.drewN | apply EA.alloc)) hb2)
              have HB' := Lib.hid (bl_bl (by repeat (first | exact HB.out | apply bl_drew | apply bl_drewN | apply bl_alloc)) hb2)
              have HL' := Lib.hid (Rd.below (by repeat (first | exact HL.out | apply rd_drew | apply rd_drewN | apply rd_alloc)) hb2)
              have HC' := Lib.hid (Rd.below (by repeat (first | exact HC.out | apply rd_drew | apply rd_drewN | apply rd_alloc)) hb2)
              have HU1' := Lib.hid (Rd.below (by repeat (first | exact HU1.out | apply rd_drew | apply rd_drewN | apply rd_alloc)) hb2)
              have HU2' := Lib.hid (Rd.below (by repeat (first | exact HU2.out | apply rd_drew | apply rd_drewN | apply rd_alloc)) hb2)
              have HU3' := Lib.hid (Rd.below (by repeat (first | exact HU3.out | apply rd_drew | apply rd_drewN | apply rd_alloc)) hb2)
              clear hb2
              have HH := HH'
              have HB := HB'
              have HL := HL'
              have HC := HC'
              have HU1 := HU1'
              have HU2 := HU2'
              have HU3 := HU3'
              clear HH' HB' HL' HC' HU1' HU2' HU3'
              refine hK.out _ _ ?_ (fun hHeld => ?_)
              · (try dsimp only); (repeat (first | exact HH.out | apply EA.drew | apply EA.drewN | apply EA.alloc))
              clear hK K
              try simp only [Act.put, List.setIfInBounds_toArray, List.set_cons_zero, List.set_cons_succ]
              refine wpAnyH_ready (rs := [13]) (by kernel_rfl) (by simp) ?_
              refine AllReadyH.cons (by simp only [List.getElem?_toArray, List.getElem?_cons_succ, List.getElem?_cons_zero]; first | done | rfl) (fun K hK => ?_) ?_
              · go_simp
                go_at_call 54
                refine (join_any _ [[byt 85], lumpB n, numB (u64 v), numB k] _ HRL.out (by have := HLM.out; simp [totalLen, numB_length, lumpB_length]; omega) (by simp)).mono ?_
                rintro e v2 ⟨u2, rfl, hu2, hb2⟩
                rw [HF.out] at hu2
                obtain ⟨b2, c2, rfl⟩ := hu2.rd.shape
                have HO := Lib.hid (hu2.mono (Below.size (by repeat (first | exact HB.out | apply bl_drew | apply bl_drewN | apply bl_alloc))))
                clear hu2
                have HH' := Lib.hid (EA.below (by repeat (first | exact HH.out | apply EA.drew | apply EA.drewN | apply EA.alloc)) hb2)
                have HB' := Lib.hid (bl_bl (by repeat (first | exact HB.out | apply bl_drew | apply bl_drewN | apply bl_alloc)) hb2)
                clear hb2
                have HH := HH'
                have HB := HB'
                clear HH' HB'
                refine hK.out _ _ ?_ (fun hHeld => ?_)
                · (try dsimp only); (repeat (first | exact HH.out | apply EA.drew | apply EA.drewN | apply EA.alloc))
                clear hK K
                try simp only [Act.put, List.setIfInBounds_toArray, List.set_cons_zero, List.set_cons_succ]
                refine wpAnyH_take (i := 14) (v := ?_) (by simp only [List.getElem?_toArray, List.getElem?_cons_succ, List.getElem?_cons_zero]; first | done | rfl) (by kernel_rfl) (by kernel_rfl) (by kernel_rfl) (fun _ _ _ h => h) (Or.inl ⟨by rfl, ?hy⟩) (by assumption) ?_
                case hy => (intro w hSw; (try dsimp only at hSw); have c0 := hSw.c0; have c1 := hSw.c1; have c2 := hSw.c2; go_simp; all_goals with_reducible rfl)
                try simp only [Act.put, List.setIfInBounds_toArray, List.set_cons_zero, List.set_cons_succ]
                refine wpAnyH_done (by kernel_rfl) ?_ _
                refine NoPanic.normal ?_
                go_wp2_with fail
                go_ret
                exact ⟨_, rfl, HO.out, HB.out⟩
              exact AllReadyH.nil
            exact AllReadyH.nil
          exact AllReadyH.nil
        refine AllReadyH.cons (by simp only [List.getElem?_toArray, List.getElem?_cons_succ, List.getElem?_cons_zero]; first | done | rfl) (fun K hK => ?_) ?_
        · go_simp
          go_at_call 56
          refine (num_own k _ hk.1 hk.2).mono ?_
          rintro e v2 ⟨u2, rfl, hu2, hb2⟩
          obtain ⟨b2, c2, rfl⟩ := hu2.rd.shape
          have HU3 := Lib.hid hu2.rd
          clear hu2
          have HH' := Lib.hid (EA.below (by repeat (first | exact HH.out | apply EA.drew | apply EA.drewN | apply EA.alloc)) hb2)
          have HB' := Lib.hid (bl_bl (by repeat (first | exact HB.out | apply bl_drew | apply bl_drewN | apply bl_alloc)) hb2)
          have HC' := Lib.hid (Rd.below (by repeat (first | exact HC.out | apply rd_drew | apply rd_drewN | apply rd_alloc)) hb2)
          have HU1' := Lib.hid (Rd.below (by repeat (first | exact HU1.out | apply rd_drew | apply rd_drewN | apply rd_alloc)) hb2)
          have HU2' := Lib.hid (Rd.below (by repeat (first | exact HU2.out | apply rd_drew | apply rd_drewN | apply rd_alloc)) hb2)
          clear hb2
          have HH := HH'
          have HB := HB'
          have HC := HC'
          have HU1 := HU1'
          have HU2 := HU2'
          clear HH' HB' HC' HU1' HU2'
          refine hK.out _ _ ?_ (fun hHeld => ?_)
          · (try dsimp only); (repeat (first | exact HH.out | apply EA.drew | apply EA.drewN | apply EA.alloc))
          clear hK K
          try simp only [Act.put, List.setIfInBounds_toArray, List.set_cons_zero, List.set_cons_succ]
          refine wpAnyH_ready (rs := [0]) (by kernel_rfl) (by simp) ?_
          refine AllReadyH.cons (by simp only [List.getElem?_toArray, List.getElem?_cons_succ, List.getElem?_cons_zero]; first | done | rfl) (fun K hK => ?_) ?_
          · go_simp
            refine k_world (fun W' => Below v2.heap.size v2 W' ∧ Rd W' (.slice (some ⟨_, 0, none⟩) 1 1) [byt 85]) ⟨(by repeat (first | exact Below.refl _ _ | apply bl_drew | apply bl_drewN | apply bl_alloc)), (by first | exact rd_one _ 85 (by omega) (by omega) | exact rd_drew (rd_one _ 85 (by omega) (by omega)))⟩ ?_
            rintro v2 ⟨hb2, hl⟩
            have HL := Lib.hid hl
            clear hl
            have HH' := Lib.hid (EA.below (by repeat (first | exact HH.out | apply EA.drew | apply EA.drewN | apply EA.alloc)) hb2)
            have HB' := Lib.hid (bl_bl (by repeat (first | exact HB.out | apply bl_drew | apply bl_drewN | apply bl_alloc)) hb2)
            have HC' := Lib.hid (Rd.below (by repeat (first | exact HC.out | apply rd_drew | apply rd_drewN | apply rd_alloc)) hb2)
            have HU1' := Lib.hid (Rd.below (by repeat (first | exact HU1.out | apply rd_drew | apply rd_drewN | apply rd_alloc)) hb2)
            have HU2' := Lib.hid (Rd.below (by repeat (first | exact HU2.out | apply rd_drew | apply rd_drewN | apply rd_alloc)) hb2)
            have HU3' := Lib.hid (Rd.below (by repeat (first | exact HU3.out | apply rd_drew | apply rd_drewN | apply rd_alloc)) hb2)
            clear hb2
            have HH := HH'
            have HB := HB'
            have HC := HC'
            have HU1 := HU1'
            have HU2 := HU2'
            have HU3 := HU3'
            clear HH' HB' HC' HU1' HU2' HU3'
            refine hK.out _ _ ?_ (fun hHeld => ?_)
            · (try dsimp only); (repeat (first | exact HH.out | apply EA.drew | apply EA.drewN | apply EA.alloc))
            clear hK K
            try simp only [Act.put, List.setIfInBounds_toArray, List.set_cons_zero, List.set_cons_succ]
            refine wpAnyH_ready (rs := [12]) (by kernel_rfl) (by simp) ?_
            refine AllReadyH.cons (by simp only [List.getElem?_toArray, List.getElem?_cons_succ, List.getElem?_cons_zero]; first | done | rfl) (fun K hK => ?_) ?_
            · go_simp
              refine k_world (fun W' => Below v2.heap.size v2 W' ∧ RdL W' (.slice (some ⟨_, 0, none⟩) 4 4) [[byt 85], lumpB n, numB (u64 v), numB k]) ⟨(by repeat (first | exact Below.refl _ _ | apply bl_drew | apply bl_drewN | apply bl_alloc)), rdl_four _ _ (by repeat (first | exact HL.out | apply rd_drew | apply rd_drewN | apply rd_alloc)) (by repeat (first | exact HU1.out | apply rd_drew | apply rd_drewN | apply rd_alloc)) (by repeat (first | exact HU2.out | apply rd_drew | apply rd_drewN | apply rd_alloc)) (by repeat (first | exact HU3.out | apply rd_drew | apply rd_drewN | apply rd_alloc))⟩ ?_
              rintro v2 ⟨hb2, hl⟩
              have HRL := Lib.hid hl
              clear hl
              have HH' := Lib.hid (EA.below (by repeat (first | exact HH.out | apply EA.drew | apply EA.drewN | apply EA.alloc)) hb2)
              have HB' := Lib.hid (bl_bl (by repeat (first | exact HB.out | apply bl_drew | apply bl_drewN | apply bl_alloc)) hb2)
              have HL' := Lib.hid (Rd.below (by repeat (first | exact HL.out | apply rd_drew | apply rd_drewN | apply rd_alloc)) hb2)
              have HC' := Lib.hid (Rd.below (by repeat (first | exact HC.out | apply rd_drew | apply rd_drewN | apply rd_alloc)) hb2)
              have HU1' := Lib.hid (Rd.below (by repeat (first | exact HU1.out | apply rd_drew | apply rd_drewN | apply rd_alloc)) hb2)
              have HU2' := Lib.hid (Rd.below (by repeat (first | exact HU2.out | apply rd_drew | apply rd_drewN | apply rd_alloc)) hb2)
              have HU3' := Lib.hid (Rd.below (by repeat (first | exact HU3.out | apply rd_drew | apply rd_drewN | apply rd_alloc)) hb2)
              clear hb2
              have HH := HH'
              have HB := HB'
              have HL := HL'
              have HC := HC'
              have HU1 := HU1'
              have HU2 := HU2'
              have HU3 := HU3'
              clear HH' HB' HL' HC' HU1' HU2' HU3'
              refine hK.out _ _ ?_ (fun hHeld => ?_)
              · (try dsimp only); (repeat (first | exact HH.out | apply EA.drew | apply EA.drewN | apply EA.alloc))
              clear hK K
              try simp only [Act.put, List.setIfInBounds_toArray, List.set_cons_zero, List.set_cons_succ]
              refine wpAnyH_ready (rs := [13]) (by kernel_rfl) (by simp) ?_
              refine AllReadyH.cons (by simp only [List.getElem?_toArray, List.getElem?_cons_succ, List.getElem?_cons_zero]; first | done | rfl) (fun K hK => ?_) ?_
              · go_simp
                go_at_call 54
                refine (join_any _ [[byt 85], lumpB n, numB (u64 v), numB k] _ HRL.out (by have := HLM.out; simp [totalLen, numB_length, lumpB_length]; omega) (by simp)).mono ?_
                rintro e v2 ⟨u2, rfl, hu2, hb2⟩
                rw [HF.out] at hu2
                obtain ⟨b2, c2, rfl⟩ := hu2.rd.shape
                have HO := Lib.hid (hu2.mono (Below.size (by repeat (first | exact HB.out | apply bl_drew | apply bl_drewN | apply bl_alloc))))
                clear hu2
                have HH' := Lib.hid (EA.below (by repeat (first | exact HH.out | apply EA.drew | apply EA.drewN | apply EA.alloc)) hb2)
                have HB' := Lib.hid (bl_bl (by repeat (first | exact HB.out | apply bl_drew | apply bl_drewN | apply bl_alloc)) hb2)
                clear hb2
                have HH := HH'
                have HB := HB'
                clear HH' HB'
                refine hK.out _ _ ?_ (fun hHeld => ?_)
                · (try dsimp only); (repeat (first | exact HH.out | apply EA.drew | apply EA.drewN | apply EA.alloc))
                clear hK K
                try simp only [Act.put, List.setIfInBounds_toArray, List.set_cons_zero, List.set_cons_succ]
                refine wpAnyH_take (i := 14) (v := ?_) (by simp only [List.getElem?_toArray, List.getElem?_cons_succ, List.getElem?_cons_zero]; first | done | rfl) (by kernel_rfl) (by kernel_rfl) (by kernel_rfl) (fun _ _ _ h => h) (Or.inl ⟨by rfl, ?hy⟩) (by assumption) ?_
                case hy => (intro w hSw; (try dsimp only at hSw); have c0 := hSw.c0; have c1 := hSw.c1; have c2 := hSw.c2; go_simp; all_goals with_reducible rfl)
                try simp only [Act.put, List.setIfInBounds_toArray, List.set_cons_zero, List.set_cons_succ]
                refine wpAnyH_done (by kernel_rfl) ?_ _
                refine NoPanic.normal ?_
                go_wp2_with fail
                go_ret
                exact ⟨_, rfl, HO.out, HB.out⟩
              exact AllReadyH.nil
            exact AllReadyH.nil
          exact AllReadyH.nil
        exact AllReadyH.nil
      exact AllReadyH.nil
    exact AllReadyH.nil
  exact AllReadyH.nil

set_option maxRecDepth 100000 in
set_option maxHeartbeats 3200000 in
theorem rfields_any (n : List UInt8) (v k : Int) (w : World) (hn : n.length ≤ 1048576) (hk : isU64 k) : Calls Try.prog 47 #[entV n v k] w (GivesOwn w (fieldsE n v k)) := by
  show Calls _ _ #[.agg (entCells n v k).toArray] w _
  have HLM := Lib.hid hn
  clear hn
  go_enter Try.func47, Try.ntmps47
  go_upto_region 1 with fail
  refine wp_world (fun W => EA w.heap.size n v k W ∧ Below w.heap.size w W) ⟨EA.new _ _ _ _, bl_alloc (Below.refl _ _) _⟩ ?_
  rintro W ⟨hA, hB⟩
  have HH := Lib.hid hA
  have HB := Lib.hid hB
  clear hA hB
  have c0 := HH.out.c0
  go_wp2_with (refine wpList_conv_sb rfl (.tmp 5) rfl rfl (by have := HLM.out; omega) ?_)
  intro u1 w1 hu1 hb1
  have HU1 := Lib.hid hu1
  have HH1 := Lib.hid (HH.out.below hb1)
  have HB1 := Lib.hid (bl_bl HB.out hb1)
  clear hu1 hb1 c0
  go_wp2_with fail
  refine (rlump_any _ n _ HU1.out (by have := HLM.out; omega)).mono ?_
  rintro e w2 ⟨u2, rfl, hu2, hb2⟩
  obtain ⟨b2, d2, rfl⟩ := hu2.rd.shape
  have HO2 := Lib.hid (hu2.mono (B' := w.heap.size + 1) (by have := HH1.out.lt; omega))
  have HH2 := Lib.hid (HH1.out.below hb2)
  have HB2 := Lib.hid (bl_bl HB1.out hb2)
  have c1 := HH2.out.c1
  clear hu2 hb2
  go_wp2_with fail
  refine (rnum_any (u64 v) _ (u64_bd _).1 (u64_bd _).2).mono ?_
  rintro e w3 ⟨u3, rfl, hu3, hb3⟩
  obtain ⟨b3, d3, rfl⟩ := hu3.rd.shape
  have HU3 := Lib.hid hu3.rd
  have HO3 := Lib.hid (HO2.out.below hb3)
  have HH3 := Lib.hid (HH2.out.below hb3)
  have HB3 := Lib.hid (bl_bl HB2.out hb3)
  clear hu3 hb3 c1
  go_wp2_with (at_builtin; refine wpList_append_bytes rfl (.tmp 8) (.tmp 12) rfl (w.heap.size + 1) rfl rfl HO3.out HU3.out (by have := HLM.out; simp [lumpB_length, numB_length]; omega) (by have := HH3.out.lt; omega) ?_)
  intro u4 w4 ho hg
  have hf : fieldsE n v k = (lumpB n ++ numB (u64 v)) ++ numB k := by simp [fieldsE]
  have hql : (lumpB n ++ numB (u64 v)).length ≤ 1048592 := by have := HLM.out; simp [lumpB_length, numB_length]; omega
  generalize lumpB n ++ numB (u64 v) = q at ho hf hql
  have HF := Lib.hid hf
  have HQL := Lib.hid hql
  clear hf hql
  obtain ⟨b4, d4, rfl⟩ := ho.rd.shape
  have HO4 := Lib.hid ho
  have HH4 := Lib.hid (HH3.out.grown hg (fun e => by have := Own.row HO3.out _ e; omega))
  have HB4 := Lib.hid (below_grown HB3.out hg (fun k hk => by have := Own.row HO3.out k hk; omega))
  have c2 := HH4.out.c2
  clear ho hg
  go_wp2_with fail
  refine (rnum_any k _ hk.1 hk.2).mono ?_
  rintro e w5 ⟨u5, rfl, hu5, hb5⟩
  obtain ⟨b5, d5, rfl⟩ := hu5.rd.shape
  have HU5 := Lib.hid hu5.rd
  have HO5 := Lib.hid (HO4.out.below hb5)
  have HH5 := Lib.hid (HH4.out.below hb5)
  have HB5 := Lib.hid (bl_bl HB4.out hb5)
  clear hu5 hb5 c2
  go_wp2_with (at_builtin; refine wpList_append_bytes rfl (.tmp 14) (.tmp 17) rfl (w.heap.size + 1) rfl rfl HO5.out HU5.out (by have := HQL.out; rw [numB_length]; omega) (by have := HH5.out.lt; omega) ?_; intro u6 w6 ho hg)
  have HB6 := Lib.hid (below_grown HB5.out hg (fun k hk => by have := Own.row HO5.out k hk; omega))
  have HO6 := Lib.hid (ho.mono (Nat.le_succ _))
  clear ho hg
  go_ret
  exact ⟨_, rfl, by rw [HF.out]; exact HO6.out, HB6.out⟩

set_option maxRecDepth 100000 in
set_option maxHeartbeats 3200000 in
theorem rmsgE_any (n : List UInt8) (v k : Int) (w : World) (hn : n.length ≤ 1048576) (hk : isU64 k) : Calls Try.prog 33 #[entV n v k] w (GivesOwn w (msgE n v k)) := by
  show Calls _ _ #[.agg (entCells n v k).toArray] w _
  have HLM := Lib.hid hn
  clear hn
  go_enter Try.func33, Try.ntmps33
  go_upto_region 1 with fail
  refine wp_world (fun W => EA w.heap.size n v k W ∧ Below w.heap.size w W) ⟨EA.new _ _ _ _, bl_alloc (Below.refl _ _) _⟩ ?_
  rintro W ⟨hA, hB⟩
  have HH := Lib.hid hA
  have HB := Lib.hid hB
  clear hA hB
  go_wp2_with (refine wpList_load_row rfl 48 (.tmp 1) rfl w.heap.size rfl 48 _ (0, 0) _ (HH.out.alloc _).row Try.underlying48 rfl (ent_size _ _ _) ?_)
  have hlt := HH.out.lt
  refine calls_world (fun Y => Below w.heap.size w Y ∧ w.heap.size < Y.heap.size ∧ Own Y (w.heap.size + 1) (.slice (some ⟨W.heap.size, 0, none⟩) 1 1) [byt 85]) ⟨bl_alloc HB.out _, by simp; omega, own_letter _ _ 85 (by omega) (by omega) (by omega)⟩ ?_
  rintro Y ⟨hB, hlt2, hO⟩
  have HBY := Lib.hid hB
  have HOY := Lib.hid hO
  clear hB hO
  refine (rfields_any n v k _ HLM.out hk).mono ?_
  rintro e w1 ⟨u1, rfl, hu1, hb1⟩
  obtain ⟨b1, d1, rfl⟩ := hu1.rd.shape
  have HU1 := Lib.hid hu1.rd
  have HO1 := Lib.hid (HOY.out.below hb1)
  have HB1 := Lib.hid (bl_bl HBY.out hb1)
  have HS := Lib.hid (Nat.lt_of_lt_of_le hlt2 hb1.size)
  clear hu1 hb1
  go_wp2_with (at_builtin; refine wpList_append_bytes rfl (.tmp 3) (.tmp 5) rfl (w.heap.size + 1) rfl rfl HO1.out HU1.out (by have := HLM.out; simp [fieldsE_length]; omega) HS.out ?_; intro u6 w6 ho hg)
  have HB6 := Lib.hid (below_grown HB1.out hg (fun k hk => by have := Own.row HO1.out k hk; omega))
  have HO6 := Lib.hid (ho.mono (Nat.le_succ _))
  clear ho hg
  go_ret
  exact ⟨_, rfl, HO6.out, HB6.out⟩

set_option maxRecDepth 100000 in
set_option maxHeartbeats 3200000 in
theorem rsignU_any (x : Int) (u : Up) (w : World) (x0 : 0 ≤ x) (x1 : x < 18446744073709551616) (ok : u.ok) :
    Calls Try.prog 20 #[.int .u64 x, upV u] w fun e w' => e = .returned (upV (signU x u)) ∧ Below w.heap.size w w' := by
  show Calls _ _ #[.int .u64 x, .agg u.cells.toArray] w _
  obtain ⟨r0, r1⟩ := sigR_bd (x % 2305843009213693950) (msgE u.nm u.ver u.key)
  obtain ⟨s0, s1⟩ := sigS_bd (x % 2305843009213693950) (msgE u.nm u.ver u.key)
  have hS := signU_val x (msgE u.nm u.ver u.key)
  have hH : signU x u = { u with r := sigR (x % 2305843009213693950) (msgE u.nm u.ver u.key), s := sigS (x % 2305843009213693950) (msgE u.nm u.ver u.key) } := rfl
  generalize sigR (x % 2305843009213693950) (msgE u.nm u.ver u.key) = r at *
  generalize sigS (x % 2305843009213693950) (msgE u.nm u.ver u.key) = s at *
  rw [hH]
  have HS1 := Lib.hid hS
  clear hS hH
  have OK := Lib.hid ok
  clear ok
  go_enter Try.func20, Try.ntmps20
  go_upto_region 1 with fail
  refine wp_world (fun W => UA w.heap.size u W ∧ Below w.heap.size w W ∧ ∃ z, W.heap[w.heap.size + 1]? = some (.cells z 27 (0, 0)) ∧ z.size = 6) ⟨(UA.new _ _).alloc _, bl_alloc (bl_alloc (Below.refl _ _) _) _, _, by rw [show w.heap.size + 1 = (w.alloc (.cells u.cells.toArray 27)).heap.size by simp]; exact heap_alloc_new _ _, rfl⟩ ?_
  rintro W ⟨hA, hB, z, hz, hz2⟩
  have HH := Lib.hid hA
  have HB := Lib.hid hB
  have HZ := Lib.hid hz
  have HLT := Lib.hid (Array.getElem?_eq_some_iff.1 hz).1
  clear hA hB hz
  go_wp2_with (refine wpList_load_row rfl 27 (.tmp 3) rfl w.heap.size rfl 27 _ (0, 0) _ HH.out.row Try.underlying27 rfl (up_size _) ?_)
  refine (rentry_any u _).mono ?_
  rintro e w0 ⟨rfl, hb0⟩
  have HB0 := Lib.hid hb0
  clear hb0
  go_wp2_with fail
  refine (rmsgE_any u.nm u.ver u.key _ OK.out.nm OK.out.key).mono ?_
  rintro e w1 ⟨u1, rfl, hu1, hb1⟩
  obtain ⟨a1, c1, rfl⟩ := hu1.rd.shape
  have HU1 := Lib.hid hu1.rd
  have HB1 := Lib.hid (bl_bl HB0.out hb1)
  clear hu1 hb1
  go_wp2_with fail
  refine (rsign_any x _ (msgE u.nm u.ver u.key) _ x0 x1 HU1.out (by have := OK.out.nm; rw [msgE_length]; omega)).mono ?_
  rintro e w2 ⟨rfl, hb2⟩
  rw [HS1.out]
  have HB2 := Lib.hid (bl_bl HB1.out hb2)
  have HH2 := Lib.hid (HH.out.below HB2.out)
  clear hb2
  have c4 := HH2.out.c4
  have c5 := HH2.out.c5
  have f4 := frozen_of_row _ _ 4 _ _ HH2.out.row
  have f5 := frozen_of_row _ _ 5 _ _ HH2.out.row
  go_upto_region 2 with fail
  have hZ : w2.heap[w.heap.size + 1]? = some (.cells z 27 (0, 0)) := by rw [HB2.out.block _ HLT.out]; exact HZ.out
  refine wp_world (fun Y => UA w.heap.size { u with r := r, s := s } Y ∧ Below w.heap.size w Y ∧ Y.heap[w.heap.size + 1]? = some (.cells z 27 (0, 0))) ⟨HH2.out.setSig r s, below_set2 (HB.out.trans (HB2.out.mono HB.out.size)) _ _ _ _, by rw [heap_far _ _ _ _ _ (by omega), heap_far _ _ _ _ _ (by omega)]; exact hZ⟩ ?_
  rintro Y ⟨hA, hB, hz⟩
  have HY := Lib.hid hA
  have HBY := Lib.hid hB
  have HZY := Lib.hid hz
  clear hA hB hz hZ c4 c5 f4 f5
  generalize hk : ({ u with r := r, s := s } : Up) = k at *
  have HK := Lib.hid hk
  clear hk
  refine wp_region_lit ?_
  refine wpList_load_row rfl 27 (.tmp 3) rfl w.heap.size rfl 27 _ (0, 0) _ HY.out.row Try.underlying27 rfl (up_size _) ?_
  go_wp2_with (refine wpList_store_row rfl 27 (.tmp 4) (.tmp 11) rfl (w.heap.size + 1) k.cells.toArray rfl rfl 27 _ HZY.out (up_size _) (by rw [hz2]; rfl) (all_oneCell_toArray k.cells_one) ?_)
  exact bodyPost_ret (v := upV k) (results_cell_row rfl _ _ (w.heap.size + 1) 27 _ (0, 0) _ rfl (setRow_heap _ _ _ _ _ _ HZY.out) Try.underlying27 rfl (up_size _)) rfl ⟨by rw [HK.out], below_setRow HBY.out (by omega)⟩

set_option maxRecDepth 100000 in
set_option maxHeartbeats 3200000 in
theorem checkU_any (y : Int) (u : Up) (w : World) (y0 : 0 ≤ y) (y1 : y < 18446744073709551616) (ok : u.ok) :
    Calls Try.prog 24 #[upV u, .int .u64 y] w fun e w' => e = .returned (.bool (checkU y u)) ∧ Below w.heap.size w w' := by
  show Calls _ _ #[.agg u.cells.toArray, .int .u64 y] w _
  unfold checkU
  have OK := Lib.hid ok
  clear ok
  go_enter Try.func24, Try.ntmps24
  go_upto_region 1 with fail
  refine wp_world (fun W => UA w.heap.size u W ∧ Below w.heap.size w W) ⟨UA.new _ _, bl_alloc (Below.refl _ _) _⟩ ?_
  rintro W ⟨hA, hB⟩
  have HH := Lib.hid hA
  have HB := Lib.hid hB
  clear hA hB
  refine wp_region_noPanic ?_
  refine wp_region_held_drew (S := (fun w' => UA w.heap.size u w')) (by kernel_rfl) ?_ (fun hHeld => ?_)
  · (try dsimp only); (repeat (first | exact HH.out | apply UA.drew | apply UA.drewN | apply UA.alloc))
  refine wpAnyH_take (i := 0) (v := ?_) (by simp only [List.getElem?_toArray, List.getElem?_cons_succ, List.getElem?_cons_zero]; first | done | rfl) (by kernel_rfl) (by kernel_rfl) (by kernel_rfl) (fun _ _ _ h => h) (Or.inl ⟨by rfl, ?hy⟩) (by assumption) ?_
  case hy => (intro w hSw; (try dsimp only at hSw); have c0 := hSw.c0; have c1 := hSw.c1; have c2 := hSw.c2; have c3 := hSw.c3; have c4 := hSw.c4; have c5 := hSw.c5; go_simp; all_goals with_reducible rfl)
  try simp only [Act.put, List.setIfInBounds_toArray, List.set_cons_zero, List.set_cons_succ]
  refine wpAnyH_take (i := 1) (by simp only [List.getElem?_toArray, List.getElem?_cons_succ, List.getElem?_cons_zero]; first | done | rfl) (by kernel_rfl) (by kernel_rfl) (by kernel_rfl) (fun _ _ _ h => h) (yields_up (by rfl) _ rfl w.heap.size u rfl (fun w hw => hw)) (by assumption) ?_
  try simp only [Act.put, List.setIfInBounds_toArray, List.set_cons_zero, List.set_cons_succ]
  refine wpAnyH_take (i := 4) (v := ?_) (by simp only [List.getElem?_toArray, List.getElem?_cons_succ, List.getElem?_cons_zero]; first | done | rfl) (by kernel_rfl) (by kernel_rfl) (by kernel_rfl) (fun _ _ _ h => h) (Or.inl ⟨by rfl, ?hy⟩) (by assumption) ?_
  case hy => (intro w hSw; (try dsimp only at hSw); have c0 := hSw.c0; have c1 := hSw.c1; have c2 := hSw.c2; have c3 := hSw.c3; have c4 := hSw.c4; have c5 := hSw.c5; go_simp; all_goals with_reducible rfl)
  try simp only [Act.put, List.setIfInBounds_toArray, List.set_cons_zero, List.set_cons_succ]
  refine wpAnyH_take (i := 5) (v := ?_) (by simp only [List.getElem?_toArray, List.getElem?_cons_succ, List.getElem?_cons_zero]; first | done | rfl) (by kernel_rfl) (by kernel_rfl) (by kernel_rfl) (fun _ _ _ h => h) (Or.inl ⟨by rfl, ?hy⟩) (by assumption) ?_
  case hy => (intro w hSw; (try dsimp only at hSw); have c0 := hSw.c0; have c1 := hSw.c1; have c2 := hSw.c2; have c3 := hSw.c3; have c4 := hSw.c4; have c5 := hSw.c5; go_simp; all_goals with_reducible rfl)
  try simp only [Act.put, List.setIfInBounds_toArray, List.set_cons_zero, List.set_cons_succ]
  refine wpAnyH_ready (rs := [2]) (by kernel_rfl) (by simp) ?_
  refine AllReadyH.cons (by simp only [List.getElem?_toArray, List.getElem?_cons_succ, List.getElem?_cons_zero]; first | done | rfl) (fun K hK => ?_) ?_
  · go_simp
    go_at_call 29
    refine (entry_any u _).mono ?_
    rintro e v2 ⟨rfl, hb2⟩
    have HH' := Lib.hid (UA.below (by repeat (first | exact HH.out | apply UA.drew | apply UA.drewN | apply UA.alloc)) hb2)
    have HB' := Lib.hid (bl_bl (by repeat (first | exact HB.out | apply bl_drew | apply bl_drewN | apply bl_alloc)) hb2)
    clear hb2
    have HH := HH'
    have HB := HB'
    clear HH' HB'
    refine hK.out _ _ ?_ (fun hHeld => ?_)
    · (try dsimp only); (repeat (first | exact HH.out | apply UA.drew | apply UA.drewN | apply UA.alloc))
    clear hK K
    try simp only [Act.put, List.setIfInBounds_toArray, List.set_cons_zero, List.set_cons_succ]
    refine wpAnyH_ready (rs := [3]) (by kernel_rfl) (by simp) ?_
    refine AllReadyH.cons (by simp only [List.getElem?_toArray, List.getElem?_cons_succ, List.getElem?_cons_zero]; first | done | rfl) (fun K hK => ?_) ?_
    · go_simp
      go_at_call 38
      refine (msgE_any u.nm u.ver u.key _ OK.out.nm OK.out.key).mono ?_
      rintro e v2 ⟨u2, rfl, hu2, hb2⟩
      obtain ⟨b2, c2, rfl⟩ := hu2.rd.shape
      have HU := Lib.hid hu2.rd
      clear hu2
      have HH' := Lib.hid (UA.below (by repeat (first | exact HH.out | apply UA.drew | apply UA.drewN | apply UA.alloc)) hb2)
      have HB' := Lib.hid (bl_bl (by repeat (first | exact HB.out | apply bl_drew | apply bl_drewN | apply bl_alloc)) hb2)
      clear hb2
      have HH := HH'
      have HB := HB'
      clear HH' HB'
      refine hK.out _ _ ?_ (fun hHeld => ?_)
      · (try dsimp only); (repeat (first | exact HH.out | apply UA.drew | apply UA.drewN | apply UA.alloc))
      clear hK K
      try simp only [Act.put, List.setIfInBounds_toArray, List.set_cons_zero, List.set_cons_succ]
      refine wpAnyH_ready (rs := [6]) (by kernel_rfl) (by simp) ?_
      refine AllReadyH.cons (by simp only [List.getElem?_toArray, List.getElem?_cons_succ, List.getElem?_cons_zero]; first | done | rfl) (fun K hK => ?_) ?_
      · go_simp
        go_at_call 37
        refine (check_any y u.r u.s _ (msgE u.nm u.ver u.key) _ y0 y1 OK.out.r.1 OK.out.r.2 OK.out.s.1 OK.out.s.2 (by repeat (first | exact HU.out | apply rd_drew | apply rd_drewN | apply rd_alloc)) (by have := OK.out.nm; rw [msgE_length]; omega)).mono ?_
        rintro e v2 ⟨rfl, hb2⟩
        have HH' := Lib.hid (UA.below (by repeat (first | exact HH.out | apply UA.drew | apply UA.drewN | apply UA.alloc)) hb2)
        have HB' := Lib.hid (bl_bl (by repeat (first | exact HB.out | apply bl_drew | apply bl_drewN | apply bl_alloc)) hb2)
        clear hb2
        have HH := HH'
        have HB := HB'
        clear HH' HB'
        refine hK.out _ _ ?_ (fun hHeld => ?_)
        · (try dsimp only); (repeat (first | exact HH.out | apply UA.drew | apply UA.drewN | apply UA.alloc))
        clear hK K
        try simp only [Act.put, List.setIfInBounds_toArray, List.set_cons_zero, List.set_cons_succ]
        refine wpAnyH_take (i := 7) (v := ?_) (by simp only [List.getElem?_toArray, List.getElem?_cons_succ, List.getElem?_cons_zero]; first | done | rfl) (by kernel_rfl) (by kernel_rfl) (by kernel_rfl) (fun _ _ _ h => h) (Or.inl ⟨by rfl, ?hy⟩) (by assumption) ?_
        case hy => (intro w hSw; (try dsimp only at hSw); have c0 := hSw.c0; have c1 := hSw.c1; have c2 := hSw.c2; have c3 := hSw.c3; have c4 := hSw.c4; have c5 := hSw.c5; go_simp; all_goals with_reducible rfl)
        try simp only [Act.put, List.setIfInBounds_toArray, List.set_cons_zero, List.set_cons_succ]
        refine wpAnyH_done (by kernel_rfl) ?_ _
        refine NoPanic.normal ?_
        go_wp2_with fail
        go_ret
        exact ⟨rfl, HB.out⟩
      exact AllReadyH.nil
    exact AllReadyH.nil
  exact AllReadyH.nil

set_option maxRecDepth 100000 in
set_option maxHeartbeats 3200000 in
theorem rcheckU_any (y : Int) (u : Up) (w : World) (y0 : 0 ≤ y) (y1 : y < 18446744073709551616) (ok : u.ok) :
    Calls Try.prog 27 #[upV u, .int .u64 y] w fun e w' => e = .returned (.bool (checkU y u)) ∧ Below w.heap.size w w' := by
  show Calls _ _ #[.agg u.cells.toArray, .int .u64 y] w _
  unfold checkU
  have OK := Lib.hid ok
  clear ok
  go_enter Try.func27, Try.ntmps27
  go_upto_region 1 with fail
  refine wp_world (fun W => UA w.heap.size u W ∧ Below w.heap.size w W) ⟨UA.new _ _, bl_alloc (Below.refl _ _) _⟩ ?_
  rintro W ⟨hA, hB⟩
  have HH := Lib.hid hA
  have HB := Lib.hid hB
  clear hA hB
  refine wp_region_noPanic ?_
  refine wp_region_held_drew (S := (fun w' => UA w.heap.size u w')) (by kernel_rfl) ?_ (fun hHeld => ?_)
  · (try dsimp only); (repeat (first | exact HH.out | apply UA.drew | apply UA.drewN | apply UA.alloc))
  refine wpAnyH_take (i := 0) (v := ?_) (by simp only [List.getElem?_toArray, List.getElem?_cons_succ, List.getElem?_cons_zero]; first | done | rfl) (by kernel_rfl) (by kernel_rfl) (by kernel_rfl) (fun _ _ _ h => h) (Or.inl ⟨by rfl, ?hy⟩) (by assumption) ?_
  case hy => (intro w hSw; (try dsimp only at hSw); have c0 := hSw.c0; have c1 := hSw.c1; have c2 := hSw.c2; have c3 := hSw.c3; have c4 := hSw.c4; have c5 := hSw.c5; go_simp; all_goals with_reducible rfl)
  try simp only [Act.put, List.setIfInBounds_toArray, List.set_cons_zero, List.set_cons_succ]
  refine wpAnyH_take (i := 1) (by simp only [List.getElem?_toArray, List.getElem?_cons_succ, List.getElem?_cons_zero]; first | done | rfl) (by kernel_rfl) (by kernel_rfl) (by kernel_rfl) (fun _ _ _ h => h) (yields_up (by rfl) _ rfl w.heap.size u rfl (fun w hw => hw)) (by assumption) ?_
  try simp only [Act.put, List.setIfInBounds_toArray, List.set_cons_zero, List.set_cons_succ]
  refine wpAnyH_take (i := 4) (v := ?_) (by simp only [List.getElem?_toArray, List.getElem?_cons_succ, List.getElem?_cons_zero]; first | done | rfl) (by kernel_rfl) (by kernel_rfl) (by kernel_rfl) (fun _ _ _ h => h) (Or.inl ⟨by rfl, ?hy⟩) (by assumption) ?_
  case hy => (intro w hSw; (try dsimp only at hSw); have c0 := hSw.c0; have c1 := hSw.c1; have c2 := hSw.c2; have c3 := hSw.c3; have c4 := hSw.c4; have c5 := hSw.c5; go_simp; all_goals with_reducible rfl)
  try simp only [Act.put, List.setIfInBounds_toArray, List.set_cons_zero, List.set_cons_succ]
  refine wpAnyH_take (i := 5) (v := ?_) (by simp only [List.getElem?_toArray, List.getElem?_cons_succ, List.getElem?_cons_zero]; first | done | rfl) (by kernel_rfl) (by kernel_rfl) (by kernel_rfl) (fun _ _ _ h => h) (Or.inl ⟨by rfl, ?hy⟩) (by assumption) ?_
  case hy => (intro w hSw; (try dsimp only at hSw); have c0 := hSw.c0; have c1 := hSw.c1; have c2 := hSw.c2; have c3 := hSw.c3; have c4 := hSw.c4; have c5 := hSw.c5; go_simp; all_goals with_reducible rfl)
  try simp only [Act.put, List.setIfInBounds_toArray, List.set_cons_zero, List.set_cons_succ]
  refine wpAnyH_ready (rs := [2]) (by kernel_rfl) (by simp) ?_
  refine AllReadyH.cons (by simp only [List.getElem?_toArray, List.getElem?_cons_succ, List.getElem?_cons_zero]; first | done | rfl) (fun K hK => ?_) ?_
  · go_simp
    go_at_call 34
    refine (rentry_any u _).mono ?_
    rintro e v2 ⟨rfl, hb2⟩
    have HH' := Lib.hid (UA.below (by repeat (first | exact HH.out | apply UA.drew | apply UA.drewN | apply UA.alloc)) hb2)
    have HB' := Lib.hid (bl_bl (by repeat (first | exact HB.out | apply bl_drew | apply bl_drewN | apply bl_alloc)) hb2)
    clear hb2
    have HH := HH'
    have HB := HB'
    clear HH' HB'
    refine hK.out _ _ ?_ (fun hHeld => ?_)
    · (try dsimp only); (repeat (first | exact HH.out | apply UA.drew | apply UA.drewN | apply UA.alloc))
    clear hK K
    try simp only [Act.put, List.setIfInBounds_toArray, List.set_cons_zero, List.set_cons_succ]
    refine wpAnyH_ready (rs := [3]) (by kernel_rfl) (by simp) ?_
    refine AllReadyH.cons (by simp only [List.getElem?_toArray, List.getElem?_cons_succ, List.getElem?_cons_zero]; first | done | rfl) (fun K hK => ?_) ?_
    · go_simp
      go_at_call 33
      refine (rmsgE_any u.nm u.ver u.key _ OK.out.nm OK.out.key).mono ?_
      rintro e v2 ⟨u2, rfl, hu2, hb2⟩
      obtain ⟨b2, c2, rfl⟩ := hu2.rd.shape
      have HU := Lib.hid hu2.rd
      clear hu2
      have HH' := Lib.hid (UA.below (by repeat (first | exact HH.out | apply UA.drew | apply UA.drewN | apply UA.alloc)) hb2)
      have HB' := Lib.hid (bl_bl (by repeat (first | exact HB.out | apply bl_drew | apply bl_drewN | apply bl_alloc)) hb2)
      clear hb2
      have HH := HH'
      have HB := HB'
      clear HH' HB'
      refine hK.out _ _ ?_ (fun hHeld => ?_)
      · (try dsimp only); (repeat (first | exact HH.out | apply UA.drew | apply UA.drewN | apply UA.alloc))
      clear hK K
      try simp only [Act.put, List.setIfInBounds_toArray, List.set_cons_zero, List.set_cons_succ]
      refine wpAnyH_ready (rs := [6]) (by kernel_rfl) (by simp) ?_
      refine AllReadyH.cons (by simp only [List.getElem?_toArray, List.getElem?_cons_succ, List.getElem?_cons_zero]; first | done | rfl) (fun K hK => ?_) ?_
      · go_simp
        go_at_call 39
        refine (rcheck_any y u.r u.s _ (msgE u.nm u.ver u.key) _ y0 y1 OK.out.r.1 OK.out.r.2 OK.out.s.1 OK.out.s.2 (by repeat (first | exact HU.out | apply rd_drew | apply rd_drewN | apply rd_alloc)) (by have := OK.out.nm; rw [msgE_length]; omega)).mono ?_
        rintro e v2 ⟨rfl, hb2⟩
        have HH' := Lib.hid (UA.below (by repeat (first | exact HH.out | apply UA.drew | apply UA.drewN | apply UA.alloc)) hb2)
        have HB' := Lib.hid (bl_bl (by repeat (first | exact HB.out | apply bl_drew | apply bl_drewN | apply bl_alloc)) hb2)
        clear hb2
        have HH := HH'
        have HB := HB'
        clear HH' HB'
        refine hK.out _ _ ?_ (fun hHeld => ?_)
        · (try dsimp only); (repeat (first | exact HH.out | apply UA.drew | apply UA.drewN | apply UA.alloc))
        clear hK K
        try simp only [Act.put, List.setIfInBounds_toArray, List.set_cons_zero, List.set_cons_succ]
        refine wpAnyH_take (i := 7) (v := ?_) (by simp only [List.getElem?_toArray, List.getElem?_cons_succ, List.getElem?_cons_zero]; first | done | rfl) (by kernel_rfl) (by kernel_rfl) (by kernel_rfl) (fun _ _ _ h => h) (Or.inl ⟨by rfl, ?hy⟩) (by assumption) ?_
        case hy => (intro w hSw; (try dsimp only at hSw); have c0 := hSw.c0; have c1 := hSw.c1; have c2 := hSw.c2; have c3 := hSw.c3; have c4 := hSw.c4; have c5 := hSw.c5; go_simp; all_goals with_reducible rfl)
        try simp only [Act.put, List.setIfInBounds_toArray, List.set_cons_zero, List.set_cons_succ]
        refine wpAnyH_done (by kernel_rfl) ?_ _
        refine NoPanic.normal ?_
        go_wp2_with fail
        go_ret
        exact ⟨rfl, HB.out⟩
      exact AllReadyH.nil
    exact AllReadyH.nil
  exact AllReadyH.nil

end Go.Proofs.Ytkkgjmfnlabbdaa
