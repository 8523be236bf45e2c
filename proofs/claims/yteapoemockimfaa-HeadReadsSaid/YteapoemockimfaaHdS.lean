/-
  Heads: Sign and Check, the program's and the reference's.
-/
import Derived.Test.YteapoemockimfaaHdM
import Derived.Test.YteapoemockimfaaHdN
import Derived.Deep.MidRow
namespace Go.Proofs.Yteapoemockimfaa
set_option linter.unusedVariables false
set_option linter.unusedSimpArgs false
open Go.RowKit
attribute [local irreducible] checkF msgF

theorem head_size (h : Hd) (ok : h.ok) : (Try.prog.info? 28).map (·.size) = some h.cells.toArray.size := by rw [head_info, List.size_toArray, Hd.cells_length h ok]
theorem signV_val (x : Int) (m : List UInt8) : signV x m = .agg #[.int .u64 (sigR (x % 2305843009213693950) m), .int .u64 (sigS (x % 2305843009213693950) m)] := rfl
theorem below_set {a b : World} (h : Below a.heap.size a b) (g o : Nat) (u : Value) (hg : a.heap.size ≤ g) : Below a.heap.size a (b.setCell ⟨g, o, none⟩ u) :=
  h.trans ⟨rfl, rfl, rfl, by simp, fun k hk => heap_far _ _ _ _ _ (by omega)⟩
theorem below_set2 {a b : World} (h : Below a.heap.size a b) (o p : Nat) (u v : Value) : Below a.heap.size a ((b.setCell ⟨a.heap.size, o, none⟩ u).setCell ⟨a.heap.size, p, none⟩ v) :=
  below_set (below_set h _ _ _ (Nat.le_refl _)) _ _ _ (Nat.le_refl _)
theorem set_last2 (P : List Value) (a b c d : Value) : ((P ++ [a, b]).set P.length c).set (P.length + 1) d = P ++ [c, d] := by
  rw [List.set_append_right _ _ (Nat.le_refl _), List.set_append_right _ _ (by omega)]
  simp
theorem cells_setSig (h : Hd) (ok : h.ok) (r s : Int) : ((h.cells.set 67 (.int .u64 r)).set 68 (.int .u64 s)) = ({ h with r := r, s := s } : Hd).cells := by
  have hl : (Value.int .i64 h.ep :: .int .i64 h.tk :: .int .i64 h.ct :: (bvs h.root ++ bvs h.log)).length = 67 := by simp [bvs_length, ok.root, ok.log]
  have e1 : h.cells = (Value.int .i64 h.ep :: .int .i64 h.tk :: .int .i64 h.ct :: (bvs h.root ++ bvs h.log)) ++ [.int .u64 h.r, .int .u64 h.s] := by simp [Hd.cells]
  have e2 : ({ h with r := r, s := s } : Hd).cells = (Value.int .i64 h.ep :: .int .i64 h.tk :: .int .i64 h.ct :: (bvs h.root ++ bvs h.log)) ++ [.int .u64 r, .int .u64 s] := by simp [Hd.cells]
  have h5 := set_last2 (Value.int .i64 h.ep :: .int .i64 h.tk :: .int .i64 h.ct :: (bvs h.root ++ bvs h.log)) (.int .u64 h.r) (.int .u64 h.s) (.int .u64 r) (.int .u64 s)
  rw [hl] at h5
  rw [e1, e2]
  exact h5
theorem HA.setSig {g : Nat} {h : Hd} {w : World} (k : HA g h w) (ok : h.ok) (r s : Int) : HA g { h with r := r, s := s } ((w.setCell ⟨g, 67, none⟩ (.int .u64 r)).setCell ⟨g, 68, none⟩ (.int .u64 s)) := by
  refine ⟨?_⟩
  rw [heap_setCell_same _ _ _ _ _ _ (heap_setCell_same _ _ _ _ _ _ k.row), ← cells_setSig h ok r s]
  simp
theorem HA.range {g : Nat} {h : Hd} {w : World} (k : HA g h w) : w.rangeAt g 0 h.cells := fun j v hv => by
  rw [cell_of_row _ _ _ _ _ _ k.row, Nat.zero_add, List.getElem?_toArray]
  exact hv
theorem yields_head {ops : Array Oper} {S : World → Prop} {op : Oper} {a : Act} (hw : Region.wanted op (yielded ops a.tmps) = true) (x : Operand) (ho : op.op = .load 28 x) (g : Nat) (h : Hd)
    (hx : a.eval x = .pointer (some ⟨g, 0, none⟩)) (ok : h.ok) (hS : ∀ w, S w → HA g h w) : YieldsIf Try.prog ops S op (headV h) a :=
  yieldsIf_load_mid hw 28 x ho g 0 hx h.cells _ (fun w hw' => (hS w hw').range) Try.underlying28 rfl (by rw [head_info, Hd.cells_length h ok])
set_option maxRecDepth 100000 in
set_option maxHeartbeats 3200000 in
theorem signh_any (x : Int) (h : Hd) (w : World) (x0 : 0 ≤ x) (x1 : x < 18446744073709551616) (ok : h.ok) :
    Calls Try.prog 16 #[.int .u64 x, headV h] w fun e w' => e = .returned (headV (signH x h)) ∧ Below w.heap.size w w' := by
  show Calls _ _ #[.int .u64 x, .agg h.cells.toArray] w _
  obtain ⟨r0, r1⟩ := sigR_bd (x % 2305843009213693950) (msgF h)
  obtain ⟨s0, s1⟩ := sigS_bd (x % 2305843009213693950) (msgF h)
  have hS := signV_val x (msgF h)
  have hH : signH x h = { h with r := sigR (x % 2305843009213693950) (msgF h), s := sigS (x % 2305843009213693950) (msgF h) } := rfl
  generalize sigR (x % 2305843009213693950) (msgF h) = r at *
  generalize sigS (x % 2305843009213693950) (msgF h) = s at *
  rw [hH]
  have HS1 := Lib.hid hS
  clear hS hH
  have OK := Lib.hid ok
  clear ok
  go_enter Try.func16, Try.ntmps16
  go_upto_region 1 with fail
  refine wp_world (fun W => HA w.heap.size h W ∧ Below w.heap.size w W ∧ ∃ z, W.heap[w.heap.size + 1]? = some (.cells z 28 (0, 0)) ∧ z.size = 69) ⟨(HA.new _ _).alloc _, bl_alloc (bl_alloc (Below.refl _ _) _) _, _, by rw [show w.heap.size + 1 = (w.alloc (.cells h.cells.toArray 28)).heap.size by simp]; exact heap_alloc_new _ _, rfl⟩ ?_
  rintro W ⟨hA, hB, z, hz, hz2⟩
  have HH := Lib.hid hA
  have HB := Lib.hid hB
  have HZ := Lib.hid hz
  have HLT := Lib.hid (Array.getElem?_eq_some_iff.1 hz).1
  clear hA hB hz
  go_wp2_with (refine wpList_load_row rfl 28 (.tmp 3) rfl w.heap.size rfl 28 _ (0, 0) _ HH.out.row Try.underlying28 rfl (head_size _ OK.out) ?_)
  refine (msg_any h _ OK.out).mono ?_
  rintro e w1 ⟨u1, rfl, hu1, hb1⟩
  obtain ⟨a1, c1, rfl⟩ := hu1.rd.shape
  have HU1 := Lib.hid hu1.rd
  have HB1 := Lib.hid hb1
  clear hu1 hb1
  go_wp2_with fail
  refine (sign_any x _ (msgF h) _ x0 x1 HU1.out (by rw [msgF_length h OK.out]; decide)).mono ?_
  rintro e w2 ⟨rfl, hb2⟩
  rw [HS1.out]
  have HB2 := Lib.hid (bl_bl HB1.out hb2)
  have HH2 := Lib.hid (HH.out.below HB2.out)
  clear hb2
  have c67 := HH2.out.c67 OK.out
  have c68 := HH2.out.c68 OK.out
  have f67 := frozen_of_row _ _ 67 _ _ HH2.out.row
  have f68 := frozen_of_row _ _ 68 _ _ HH2.out.row
  go_upto_region 2 with fail
  have hZ : w2.heap[w.heap.size + 1]? = some (.cells z 28 (0, 0)) := by rw [HB2.out.block _ HLT.out]; exact HZ.out
  refine wp_world (fun Y => HA w.heap.size { h with r := r, s := s } Y ∧ Below w.heap.size w Y ∧ Y.heap[w.heap.size + 1]? = some (.cells z 28 (0, 0))) ⟨HH2.out.setSig OK.out r s, below_set2 (HB.out.trans (HB2.out.mono HB.out.size)) _ _ _ _, by rw [heap_far _ _ _ _ _ (by omega), heap_far _ _ _ _ _ (by omega)]; exact hZ⟩ ?_
  rintro Y ⟨hA, hB, hz⟩
  have HY := Lib.hid hA
  have HBY := Lib.hid hB
  have HZY := Lib.hid hz
  have OK2 := Lib.hid (show ({ h with r := r, s := s } : Hd).ok from ⟨OK.out.ep, OK.out.tk, OK.out.ct, OK.out.root, OK.out.log, ⟨r0, by show r < _; omega⟩, ⟨s0, by show s < _; omega⟩⟩)
  clear hA hB hz hZ c67 c68 f67 f68
  generalize hk : ({ h with r := r, s := s } : Hd) = k at *
  have HK := Lib.hid hk
  clear hk
  refine wp_region_lit ?_
  refine wpList_load_row rfl 28 (.tmp 3) rfl w.heap.size rfl 28 _ (0, 0) _ HY.out.row Try.underlying28 rfl (head_size _ OK2.out) ?_
  go_wp2_with (refine wpList_store_row rfl 28 (.tmp 4) (.tmp 10) rfl (w.heap.size + 1) k.cells.toArray rfl rfl 28 _ HZY.out (head_size _ OK2.out) (by rw [hz2, List.size_toArray, Hd.cells_length k OK2.out]) (all_oneCell_toArray k.cells_one) ?_)
  exact bodyPost_ret (v := headV k) (results_cell_row rfl _ _ (w.heap.size + 1) 28 _ (0, 0) _ rfl (setRow_heap _ _ _ _ _ _ HZY.out) Try.underlying28 rfl (head_size _ OK2.out)) rfl ⟨by rw [HK.out], below_setRow HBY.out (by omega)⟩

set_option maxRecDepth 100000 in
set_option maxHeartbeats 3200000 in
theorem rsignh_any (x : Int) (h : Hd) (w : World) (x0 : 0 ≤ x) (x1 : x < 18446744073709551616) (ok : h.ok) :
    Calls Try.prog 7 #[.int .u64 x, headV h] w fun e w' => e = .returned (headV (signH x h)) ∧ Below w.heap.size w w' := by
  show Calls _ _ #[.int .u64 x, .agg h.cells.toArray] w _
  obtain ⟨r0, r1⟩ := sigR_bd (x % 2305843009213693950) (msgF h)
  obtain ⟨s0, s1⟩ := sigS_bd (x % 2305843009213693950) (msgF h)
  have hS := signV_val x (msgF h)
  have hH : signH x h = { h with r := sigR (x % 2305843009213693950) (msgF h), s := sigS (x % 2305843009213693950) (msgF h) } := rfl
  generalize sigR (x % 2305843009213693950) (msgF h) = r at *
  generalize sigS (x % 2305843009213693950) (msgF h) = s at *
  rw [hH]
  have HS1 := Lib.hid hS
  clear hS hH
  have OK := Lib.hid ok
  clear ok
  go_enter Try.func7, Try.ntmps7
  go_upto_region 1 with fail
  refine wp_world (fun W => HA w.heap.size h W ∧ Below w.heap.size w W ∧ ∃ z, W.heap[w.heap.size + 1]? = some (.cells z 28 (0, 0)) ∧ z.size = 69) ⟨(HA.new _ _).alloc _, bl_alloc (bl_alloc (Below.refl _ _) _) _, _, by rw [show w.heap.size + 1 = (w.alloc (.cells h.cells.toArray 28)).heap.size by simp]; exact heap_alloc_new _ _, rfl⟩ ?_
  rintro W ⟨hA, hB, z, hz, hz2⟩
  have HH := Lib.hid hA
  have HB := Lib.hid hB
  have HZ := Lib.hid hz
  have HLT := Lib.hid (Array.getElem?_eq_some_iff.1 hz).1
  clear hA hB hz
  go_wp2_with (refine wpList_load_row rfl 28 (.tmp 3) rfl w.heap.size rfl 28 _ (0, 0) _ HH.out.row Try.underlying28 rfl (head_size _ OK.out) ?_)
  refine (rmsg_any h _ OK.out).mono ?_
  rintro e w1 ⟨u1, rfl, hu1, hb1⟩
  obtain ⟨a1, c1, rfl⟩ := hu1.rd.shape
  have HU1 := Lib.hid hu1.rd
  have HB1 := Lib.hid hb1
  clear hu1 hb1
  go_wp2_with fail
  refine (rsign_any x _ (msgF h) _ x0 x1 HU1.out (by rw [msgF_length h OK.out]; decide)).mono ?_
  rintro e w2 ⟨rfl, hb2⟩
  rw [HS1.out]
  have HB2 := Lib.hid (bl_bl HB1.out hb2)
  have HH2 := Lib.hid (HH.out.below HB2.out)
  clear hb2
  have c67 := HH2.out.c67 OK.out
  have c68 := HH2.out.c68 OK.out
  have f67 := frozen_of_row _ _ 67 _ _ HH2.out.row
  have f68 := frozen_of_row _ _ 68 _ _ HH2.out.row
  go_upto_region 2 with fail
  have hZ : w2.heap[w.heap.size + 1]? = some (.cells z 28 (0, 0)) := by rw [HB2.out.block _ HLT.out]; exact HZ.out
  refine wp_world (fun Y => HA w.heap.size { h with r := r, s := s } Y ∧ Below w.heap.size w Y ∧ Y.heap[w.heap.size + 1]? = some (.cells z 28 (0, 0))) ⟨HH2.out.setSig OK.out r s, below_set2 (HB.out.trans (HB2.out.mono HB.out.size)) _ _ _ _, by rw [heap_far _ _ _ _ _ (by omega), heap_far _ _ _ _ _ (by omega)]; exact hZ⟩ ?_
  rintro Y ⟨hA, hB, hz⟩
  have HY := Lib.hid hA
  have HBY := Lib.hid hB
  have HZY := Lib.hid hz
  have OK2 := Lib.hid (show ({ h with r := r, s := s } : Hd).ok from ⟨OK.out.ep, OK.out.tk, OK.out.ct, OK.out.root, OK.out.log, ⟨r0, by show r < _; omega⟩, ⟨s0, by show s < _; omega⟩⟩)
  clear hA hB hz hZ c67 c68 f67 f68
  generalize hk : ({ h with r := r, s := s } : Hd) = k at *
  have HK := Lib.hid hk
  clear hk
  refine wp_region_lit ?_
  refine wpList_load_row rfl 28 (.tmp 3) rfl w.heap.size rfl 28 _ (0, 0) _ HY.out.row Try.underlying28 rfl (head_size _ OK2.out) ?_
  go_wp2_with (refine wpList_store_row rfl 28 (.tmp 4) (.tmp 10) rfl (w.heap.size + 1) k.cells.toArray rfl rfl 28 _ HZY.out (head_size _ OK2.out) (by rw [hz2, List.size_toArray, Hd.cells_length k OK2.out]) (all_oneCell_toArray k.cells_one) ?_)
  exact bodyPost_ret (v := headV k) (results_cell_row rfl _ _ (w.heap.size + 1) 28 _ (0, 0) _ rfl (setRow_heap _ _ _ _ _ _ HZY.out) Try.underlying28 rfl (head_size _ OK2.out)) rfl ⟨by rw [HK.out], below_setRow HBY.out (by omega)⟩

set_option maxRecDepth 100000 in
set_option maxHeartbeats 3200000 in
theorem checkh_any (y : Int) (h : Hd) (w : World) (y0 : 0 ≤ y) (y1 : y < 18446744073709551616) (ok : h.ok) :
    Calls Try.prog 18 #[.int .u64 y, headV h] w fun e w' => e = .returned (.bool (checkH y h)) ∧ Below w.heap.size w w' := by
  show Calls _ _ #[.int .u64 y, .agg h.cells.toArray] w _
  have OK := Lib.hid ok
  clear ok
  cases hr : rightF h with
  | false =>
    have HR := Lib.hid hr
    rw [show checkH y h = false by unfold checkH; rw [hr]; rfl]
    clear hr
    go_enter Try.func18, Try.ntmps18
    go_upto_region 1 with fail
    refine wp_world (fun W => HA w.heap.size h W ∧ Below w.heap.size w W) ⟨HA.new _ _, bl_alloc (Below.refl _ _) _⟩ ?_
    rintro W ⟨hA, hB⟩
    have HH := Lib.hid hA
    have HB := Lib.hid hB
    clear hA hB
    refine wp_region_noPanic ?_
    refine wp_region_held_drew (S := (fun w' => HA w.heap.size h w')) (by kernel_rfl) ?_ (fun hHeld => ?_)
    · (try dsimp only); (repeat (first | exact HH.out | apply HA.drew | apply HA.drewN | apply HA.alloc))
    refine wpAnyH_take (i := 0) (by simp only [List.getElem?_toArray, List.getElem?_cons_succ, List.getElem?_cons_zero]; first | done | rfl) (by kernel_rfl) (by kernel_rfl) (by kernel_rfl) (fun _ _ _ h => h) (yields_head (by rfl) _ rfl w.heap.size h rfl OK.out (fun w hw => hw)) (by assumption) ?_
    try simp only [Act.put, List.setIfInBounds_toArray, List.set_cons_zero, List.set_cons_succ]
    refine wpAnyH_ready (rs := [1]) (by kernel_rfl) (by simp) ?_
    refine AllReadyH.cons (by simp only [List.getElem?_toArray, List.getElem?_cons_succ, List.getElem?_cons_zero]; first | done | rfl) (fun K hK => ?_) ?_
    · go_simp
      go_at_call 12
      refine (right_any h _).mono ?_
      rintro e v2 ⟨rfl, hb2⟩
      rw [HR.out]
      have HH' := Lib.hid (HA.below (by repeat (first | exact HH.out | apply HA.drew | apply HA.drewN | apply HA.alloc)) hb2)
      have HB' := Lib.hid (bl_bl (by repeat (first | exact HB.out | apply bl_drew | apply bl_drewN | apply bl_alloc)) hb2)
      clear hb2
      have HH := HH'
      have HB := HB'
      clear HH' HB'
      refine hK.out _ _ ?_ (fun hHeld => ?_)
      · (try dsimp only); (repeat (first | exact HH.out | apply HA.drew | apply HA.drewN | apply HA.alloc))
      clear hK K
      try simp only [Act.put, List.setIfInBounds_toArray, List.set_cons_zero, List.set_cons_succ]
      refine wpAnyH_take (i := 2) (v := ?_) (by simp only [List.getElem?_toArray, List.getElem?_cons_succ, List.getElem?_cons_zero]; first | done | rfl) (by kernel_rfl) (by kernel_rfl) (by kernel_rfl) (fun _ _ _ h => h) (Or.inl ⟨by rfl, ?hy⟩) (by assumption) ?_
      case hy => (intro w hSw; (try dsimp only at hSw); have c67 := hSw.c67 OK.out; have c68 := hSw.c68 OK.out; go_simp; all_goals with_reducible rfl)
      try simp only [Act.put, List.setIfInBounds_toArray, List.set_cons_zero, List.set_cons_succ]
      refine wpAnyH_take (i := 3) (v := undef) (by simp only [List.getElem?_toArray, List.getElem?_cons_succ, List.getElem?_cons_zero]; first | done | rfl) (by kernel_rfl) (by kernel_rfl) (by kernel_rfl) (fun _ _ _ h => h) (Or.inr ⟨by rfl, rfl⟩) (by assumption) ?_
      try simp only [Act.put, List.setIfInBounds_toArray, List.set_cons_zero, List.set_cons_succ]
      refine wpAnyH_take (i := 4) (v := undef) (by simp only [List.getElem?_toArray, List.getElem?_cons_succ, List.getElem?_cons_zero]; first | done | rfl) (by kernel_rfl) (by kernel_rfl) (by kernel_rfl) (fun _ _ _ h => h) (Or.inr ⟨by rfl, rfl⟩) (by assumption) ?_
      try simp only [Act.put, List.setIfInBounds_toArray, List.set_cons_zero, List.set_cons_succ]
      refine wpAnyH_take (i := 5) (v := undef) (by simp only [List.getElem?_toArray, List.getElem?_cons_succ, List.getElem?_cons_zero]; first | done | rfl) (by kernel_rfl) (by kernel_rfl) (by kernel_rfl) (fun _ _ _ h => h) (Or.inr ⟨by rfl, rfl⟩) (by assumption) ?_
      try simp only [Act.put, List.setIfInBounds_toArray, List.set_cons_zero, List.set_cons_succ]
      refine wpAnyH_take (i := 6) (v := undef) (by simp only [List.getElem?_toArray, List.getElem?_cons_succ, List.getElem?_cons_zero]; first | done | rfl) (by kernel_rfl) (by kernel_rfl) (by kernel_rfl) (fun _ _ _ h => h) (Or.inr ⟨by rfl, rfl⟩) (by assumption) ?_
      try simp only [Act.put, List.setIfInBounds_toArray, List.set_cons_zero, List.set_cons_succ]
      refine wpAnyH_take (i := 7) (v := undef) (by simp only [List.getElem?_toArray, List.getElem?_cons_succ, List.getElem?_cons_zero]; first | done | rfl) (by kernel_rfl) (by kernel_rfl) (by kernel_rfl) (fun _ _ _ h => h) (Or.inr ⟨by rfl, rfl⟩) (by assumption) ?_
      try simp only [Act.put, List.setIfInBounds_toArray, List.set_cons_zero, List.set_cons_succ]
      refine wpAnyH_take (i := 8) (v := undef) (by simp only [List.getElem?_toArray, List.getElem?_cons_succ, List.getElem?_cons_zero]; first | done | rfl) (by kernel_rfl) (by kernel_rfl) (by kernel_rfl) (fun _ _ _ h => h) (Or.inr ⟨by rfl, rfl⟩) (by assumption) ?_
      try simp only [Act.put, List.setIfInBounds_toArray, List.set_cons_zero, List.set_cons_succ]
      refine wpAnyH_take (i := 9) (v := ?_) (by simp only [List.getElem?_toArray, List.getElem?_cons_succ, List.getElem?_cons_zero]; first | done | rfl) (by kernel_rfl) (by kernel_rfl) (by kernel_rfl) (fun _ _ _ h => h) (Or.inl ⟨by rfl, ?hy⟩) (by assumption) ?_
      case hy => (intro w hSw; (try dsimp only at hSw); have c67 := hSw.c67 OK.out; have c68 := hSw.c68 OK.out; go_simp; all_goals with_reducible rfl)
      try simp only [Act.put, List.setIfInBounds_toArray, List.set_cons_zero, List.set_cons_succ]
      refine wpAnyH_take (i := 10) (v := ?_) (by simp only [List.getElem?_toArray, List.getElem?_cons_succ, List.getElem?_cons_zero]; first | done | rfl) (by kernel_rfl) (by kernel_rfl) (by kernel_rfl) (fun _ _ _ h => h) (Or.inl ⟨by rfl, ?hy⟩) (by assumption) ?_
      case hy => (intro w hSw; (try dsimp only at hSw); have c67 := hSw.c67 OK.out; have c68 := hSw.c68 OK.out; go_simp; all_goals with_reducible rfl)
      try simp only [Act.put, List.setIfInBounds_toArray, List.set_cons_zero, List.set_cons_succ]
      refine wpAnyH_done (by kernel_rfl) ?_ _
      refine NoPanic.normal ?_
      go_wp2_with fail
      go_ret
      exact ⟨rfl, HB.out⟩
    exact AllReadyH.nil
  | true =>
    have HR := Lib.hid hr
    rw [show checkH y h = checkF y (msgF h) h.r h.s by unfold checkH; rw [hr]; rfl]
    clear hr
    go_enter Try.func18, Try.ntmps18
    go_upto_region 1 with fail
    refine wp_world (fun W => HA w.heap.size h W ∧ Below w.heap.size w W) ⟨HA.new _ _, bl_alloc (Below.refl _ _) _⟩ ?_
    rintro W ⟨hA, hB⟩
    have HH := Lib.hid hA
    have HB := Lib.hid hB
    clear hA hB
    refine wp_region_noPanic ?_
    refine wp_region_held_drew (S := (fun w' => HA w.heap.size h w')) (by kernel_rfl) ?_ (fun hHeld => ?_)
    · (try dsimp only); (repeat (first | exact HH.out | apply HA.drew | apply HA.drewN | apply HA.alloc))
    refine wpAnyH_take (i := 0) (by simp only [List.getElem?_toArray, List.getElem?_cons_succ, List.getElem?_cons_zero]; first | done | rfl) (by kernel_rfl) (by kernel_rfl) (by kernel_rfl) (fun _ _ _ h => h) (yields_head (by rfl) _ rfl w.heap.size h rfl OK.out (fun w hw => hw)) (by assumption) ?_
    try simp only [Act.put, List.setIfInBounds_toArray, List.set_cons_zero, List.set_cons_succ]
    refine wpAnyH_ready (rs := [1]) (by kernel_rfl) (by simp) ?_
    refine AllReadyH.cons (by simp only [List.getElem?_toArray, List.getElem?_cons_succ, List.getElem?_cons_zero]; first | done | rfl) (fun K hK => ?_) ?_
    · go_simp
      go_at_call 12
      refine (right_any h _).mono ?_
      rintro e v2 ⟨rfl, hb2⟩
      rw [HR.out]
      have HH' := Lib.hid (HA.below (by repeat (first | exact HH.out | apply HA.drew | apply HA.drewN | apply HA.alloc)) hb2)
      have HB' := Lib.hid (bl_bl (by repeat (first | exact HB.out | apply bl_drew | apply bl_drewN | apply bl_alloc)) hb2)
      clear hb2
      have HH := HH'
      have HB := HB'
      clear HH' HB'
      refine hK.out _ _ ?_ (fun hHeld => ?_)
      · (try dsimp only); (repeat (first | exact HH.out | apply HA.drew | apply HA.drewN | apply HA.alloc))
      clear hK K
      try simp only [Act.put, List.setIfInBounds_toArray, List.set_cons_zero, List.set_cons_succ]
      refine wpAnyH_take (i := 2) (v := ?_) (by simp only [List.getElem?_toArray, List.getElem?_cons_succ, List.getElem?_cons_zero]; first | done | rfl) (by kernel_rfl) (by kernel_rfl) (by kernel_rfl) (fun _ _ _ h => h) (Or.inl ⟨by rfl, ?hy⟩) (by assumption) ?_
      case hy => (intro w hSw; (try dsimp only at hSw); have c67 := hSw.c67 OK.out; have c68 := hSw.c68 OK.out; go_simp; all_goals with_reducible rfl)
      try simp only [Act.put, List.setIfInBounds_toArray, List.set_cons_zero, List.set_cons_succ]
      refine wpAnyH_take (i := 3) (v := ?_) (by simp only [List.getElem?_toArray, List.getElem?_cons_succ, List.getElem?_cons_zero]; first | done | rfl) (by kernel_rfl) (by kernel_rfl) (by kernel_rfl) (fun _ _ _ h => h) (Or.inl ⟨by rfl, ?hy⟩) (by assumption) ?_
      case hy => (intro w hSw; (try dsimp only at hSw); have c67 := hSw.c67 OK.out; have c68 := hSw.c68 OK.out; go_simp; all_goals with_reducible rfl)
      try simp only [Act.put, List.setIfInBounds_toArray, List.set_cons_zero, List.set_cons_succ]
      refine wpAnyH_take (i := 4) (by simp only [List.getElem?_toArray, List.getElem?_cons_succ, List.getElem?_cons_zero]; first | done | rfl) (by kernel_rfl) (by kernel_rfl) (by kernel_rfl) (fun _ _ _ h => h) (yields_head (by rfl) _ rfl w.heap.size h rfl OK.out (fun w hw => hw)) (by assumption) ?_
      try simp only [Act.put, List.setIfInBounds_toArray, List.set_cons_zero, List.set_cons_succ]
      refine wpAnyH_take (i := 6) (v := ?_) (by simp only [List.getElem?_toArray, List.getElem?_cons_succ, List.getElem?_cons_zero]; first | done | rfl) (by kernel_rfl) (by kernel_rfl) (by kernel_rfl) (fun _ _ _ h => h) (Or.inl ⟨by rfl, ?hy⟩) (by assumption) ?_
      case hy => (intro w hSw; (try dsimp only at hSw); have c67 := hSw.c67 OK.out; have c68 := hSw.c68 OK.out; go_simp; all_goals with_reducible rfl)
      try simp only [Act.put, List.setIfInBounds_toArray, List.set_cons_zero, List.set_cons_succ]
      refine wpAnyH_take (i := 7) (v := ?_) (by simp only [List.getElem?_toArray, List.getElem?_cons_succ, List.getElem?_cons_zero]; first | done | rfl) (by kernel_rfl) (by kernel_rfl) (by kernel_rfl) (fun _ _ _ h => h) (Or.inl ⟨by rfl, ?hy⟩) (by assumption) ?_
      case hy => (intro w hSw; (try dsimp only at hSw); have c67 := hSw.c67 OK.out; have c68 := hSw.c68 OK.out; go_simp; all_goals with_reducible rfl)
      try simp only [Act.put, List.setIfInBounds_toArray, List.set_cons_zero, List.set_cons_succ]
      refine wpAnyH_ready (rs := [5]) (by kernel_rfl) (by simp) ?_
      refine AllReadyH.cons (by simp only [List.getElem?_toArray, List.getElem?_cons_succ, List.getElem?_cons_zero]; first | done | rfl) (fun K hK => ?_) ?_
      · go_simp
        go_at_call 14
        refine (msg_any h _ OK.out).mono ?_
        rintro e v2 ⟨u2, rfl, hu2, hb2⟩
        obtain ⟨b2, c2, rfl⟩ := hu2.rd.shape
        have HU := Lib.hid hu2.rd
        clear hu2
        have HH' := Lib.hid (HA.below (by repeat (first | exact HH.out | apply HA.drew | apply HA.drewN | apply HA.alloc)) hb2)
        have HB' := Lib.hid (bl_bl (by repeat (first | exact HB.out | apply bl_drew | apply bl_drewN | apply bl_alloc)) hb2)
        clear hb2
        have HH := HH'
        have HB := HB'
        clear HH' HB'
        refine hK.out _ _ ?_ (fun hHeld => ?_)
        · (try dsimp only); (repeat (first | exact HH.out | apply HA.drew | apply HA.drewN | apply HA.alloc))
        clear hK K
        try simp only [Act.put, List.setIfInBounds_toArray, List.set_cons_zero, List.set_cons_succ]
        refine wpAnyH_ready (rs := [8]) (by kernel_rfl) (by simp) ?_
        refine AllReadyH.cons (by simp only [List.getElem?_toArray, List.getElem?_cons_succ, List.getElem?_cons_zero]; first | done | rfl) (fun K hK => ?_) ?_
        · go_simp
          go_at_call 34
          refine (check_any y h.r h.s _ (msgF h) _ y0 y1 OK.out.r.1 OK.out.r.2 OK.out.s.1 OK.out.s.2 (by repeat (first | exact HU.out | apply rd_drew | apply rd_drewN | apply rd_alloc)) (by rw [msgF_length h OK.out]; decide)).mono ?_
          rintro e v2 ⟨rfl, hb2⟩
          have HH' := Lib.hid (HA.below (by repeat (first | exact HH.out | apply HA.drew | apply HA.drewN | apply HA.alloc)) hb2)
          have HB' := Lib.hid (bl_bl (by repeat (first | exact HB.out | apply bl_drew | apply bl_drewN | apply bl_alloc)) hb2)
          clear hb2
          have HH := HH'
          have HB := HB'
          clear HH' HB'
          refine hK.out _ _ ?_ (fun hHeld => ?_)
          · (try dsimp only); (repeat (first | exact HH.out | apply HA.drew | apply HA.drewN | apply HA.alloc))
          clear hK K
          try simp only [Act.put, List.setIfInBounds_toArray, List.set_cons_zero, List.set_cons_succ]
          refine wpAnyH_take (i := 9) (v := ?_) (by simp only [List.getElem?_toArray, List.getElem?_cons_succ, List.getElem?_cons_zero]; first | done | rfl) (by kernel_rfl) (by kernel_rfl) (by kernel_rfl) (fun _ _ _ h => h) (Or.inl ⟨by rfl, ?hy⟩) (by assumption) ?_
          case hy => (intro w hSw; (try dsimp only at hSw); have c67 := hSw.c67 OK.out; have c68 := hSw.c68 OK.out; go_simp; all_goals with_reducible rfl)
          try simp only [Act.put, List.setIfInBounds_toArray, List.set_cons_zero, List.set_cons_succ]
          refine wpAnyH_take (i := 10) (v := ?_) (by simp only [List.getElem?_toArray, List.getElem?_cons_succ, List.getElem?_cons_zero]; first | done | rfl) (by kernel_rfl) (by kernel_rfl) (by kernel_rfl) (fun _ _ _ h => h) (Or.inl ⟨by rfl, ?hy⟩) (by assumption) ?_
          case hy => (intro w hSw; (try dsimp only at hSw); have c67 := hSw.c67 OK.out; have c68 := hSw.c68 OK.out; go_simp; all_goals with_reducible rfl)
          try simp only [Act.put, List.setIfInBounds_toArray, List.set_cons_zero, List.set_cons_succ]
          refine wpAnyH_done (by kernel_rfl) ?_ _
          refine NoPanic.normal ?_
          go_wp2_with fail
          go_ret
          exact ⟨rfl, HB.out⟩
        exact AllReadyH.nil
      exact AllReadyH.nil
    exact AllReadyH.nil

set_option maxRecDepth 100000 in
set_option maxHeartbeats 3200000 in
theorem rcheckh_any (y : Int) (h : Hd) (w : World) (y0 : 0 ≤ y) (y1 : y < 18446744073709551616) (ok : h.ok) :
    Calls Try.prog 19 #[.int .u64 y, headV h] w fun e w' => e = .returned (.bool (checkH y h)) ∧ Below w.heap.size w w' := by
  show Calls _ _ #[.int .u64 y, .agg h.cells.toArray] w _
  have OK := Lib.hid ok
  clear ok
  cases hr : rightF h with
  | false =>
    have HR := Lib.hid hr
    rw [show checkH y h = false by unfold checkH; rw [hr]; rfl]
    clear hr
    go_enter Try.func19, Try.ntmps19
    go_upto_region 1 with fail
    refine wp_world (fun W => HA w.heap.size h W ∧ Below w.heap.size w W) ⟨HA.new _ _, bl_alloc (Below.refl _ _) _⟩ ?_
    rintro W ⟨hA, hB⟩
    have HH := Lib.hid hA
    have HB := Lib.hid hB
    clear hA hB
    refine wp_region_noPanic ?_
    refine wp_region_held_drew (S := (fun w' => HA w.heap.size h w')) (by kernel_rfl) ?_ (fun hHeld => ?_)
    · (try dsimp only); (repeat (first | exact HH.out | apply HA.drew | apply HA.drewN | apply HA.alloc))
    refine wpAnyH_take (i := 0) (by simp only [List.getElem?_toArray, List.getElem?_cons_succ, List.getElem?_cons_zero]; first | done | rfl) (by kernel_rfl) (by kernel_rfl) (by kernel_rfl) (fun _ _ _ h => h) (yields_head (by rfl) _ rfl w.heap.size h rfl OK.out (fun w hw => hw)) (by assumption) ?_
    try simp only [Act.put, List.setIfInBounds_toArray, List.set_cons_zero, List.set_cons_succ]
    refine wpAnyH_ready (rs := [1]) (by kernel_rfl) (by simp) ?_
    refine AllReadyH.cons (by simp only [List.getElem?_toArray, List.getElem?_cons_succ, List.getElem?_cons_zero]; first | done | rfl) (fun K hK => ?_) ?_
    · go_simp
      go_at_call 13
      refine (rright_any h _).mono ?_
      rintro e v2 ⟨rfl, hb2⟩
      rw [HR.out]
      have HH' := Lib.hid (HA.below (by repeat (first | exact HH.out | apply HA.drew | apply HA.drewN | apply HA.alloc)) hb2)
      have HB' := Lib.hid (bl_bl (by repeat (first | exact HB.out | apply bl_drew | apply bl_drewN | apply bl_alloc)) hb2)
      clear hb2
      have HH := HH'
      have HB := HB'
      clear HH' HB'
      refine hK.out _ _ ?_ (fun hHeld => ?_)
      · (try dsimp only); (repeat (first | exact HH.out | apply HA.drew | apply HA.drewN | apply HA.alloc))
      clear hK K
      try simp only [Act.put, List.setIfInBounds_toArray, List.set_cons_zero, List.set_cons_succ]
      refine wpAnyH_take (i := 2) (v := ?_) (by simp only [List.getElem?_toArray, List.getElem?_cons_succ, List.getElem?_cons_zero]; first | done | rfl) (by kernel_rfl) (by kernel_rfl) (by kernel_rfl) (fun _ _ _ h => h) (Or.inl ⟨by rfl, ?hy⟩) (by assumption) ?_
      case hy => (intro w hSw; (try dsimp only at hSw); have c67 := hSw.c67 OK.out; have c68 := hSw.c68 OK.out; go_simp; all_goals with_reducible rfl)
      try simp only [Act.put, List.setIfInBounds_toArray, List.set_cons_zero, List.set_cons_succ]
      refine wpAnyH_take (i := 3) (v := undef) (by simp only [List.getElem?_toArray, List.getElem?_cons_succ, List.getElem?_cons_zero]; first | done | rfl) (by kernel_rfl) (by kernel_rfl) (by kernel_rfl) (fun _ _ _ h => h) (Or.inr ⟨by rfl, rfl⟩) (by assumption) ?_
      try simp only [Act.put, List.setIfInBounds_toArray, List.set_cons_zero, List.set_cons_succ]
      refine wpAnyH_take (i := 4) (v := undef) (by simp only [List.getElem?_toArray, List.getElem?_cons_succ, List.getElem?_cons_zero]; first | done | rfl) (by kernel_rfl) (by kernel_rfl) (by kernel_rfl) (fun _ _ _ h => h) (Or.inr ⟨by rfl, rfl⟩) (by assumption) ?_
      try simp only [Act.put, List.setIfInBounds_toArray, List.set_cons_zero, List.set_cons_succ]
      refine wpAnyH_take (i := 5) (v := undef) (by simp only [List.getElem?_toArray, List.getElem?_cons_succ, List.getElem?_cons_zero]; first | done | rfl) (by kernel_rfl) (by kernel_rfl) (by kernel_rfl) (fun _ _ _ h => h) (Or.inr ⟨by rfl, rfl⟩) (by assumption) ?_
      try simp only [Act.put, List.setIfInBounds_toArray, List.set_cons_zero, List.set_cons_succ]
      refine wpAnyH_take (i := 6) (v := undef) (by simp only [List.getElem?_toArray, List.getElem?_cons_succ, List.getElem?_cons_zero]; first | done | rfl) (by kernel_rfl) (by kernel_rfl) (by kernel_rfl) (fun _ _ _ h => h) (Or.inr ⟨by rfl, rfl⟩) (by assumption) ?_
      try simp only [Act.put, List.setIfInBounds_toArray, List.set_cons_zero, List.set_cons_succ]
      refine wpAnyH_take (i := 7) (v := undef) (by simp only [List.getElem?_toArray, List.getElem?_cons_succ, List.getElem?_cons_zero]; first | done | rfl) (by kernel_rfl) (by kernel_rfl) (by kernel_rfl) (fun _ _ _ h => h) (Or.inr ⟨by rfl, rfl⟩) (by assumption) ?_
      try simp only [Act.put, List.setIfInBounds_toArray, List.set_cons_zero, List.set_cons_succ]
      refine wpAnyH_take (i := 8) (v := undef) (by simp only [List.getElem?_toArray, List.getElem?_cons_succ, List.getElem?_cons_zero]; first | done | rfl) (by kernel_rfl) (by kernel_rfl) (by kernel_rfl) (fun _ _ _ h => h) (Or.inr ⟨by rfl, rfl⟩) (by assumption) ?_
      try simp only [Act.put, List.setIfInBounds_toArray, List.set_cons_zero, List.set_cons_succ]
      refine wpAnyH_take (i := 9) (v := ?_) (by simp only [List.getElem?_toArray, List.getElem?_cons_succ, List.getElem?_cons_zero]; first | done | rfl) (by kernel_rfl) (by kernel_rfl) (by kernel_rfl) (fun _ _ _ h => h) (Or.inl ⟨by rfl, ?hy⟩) (by assumption) ?_
      case hy => (intro w hSw; (try dsimp only at hSw); have c67 := hSw.c67 OK.out; have c68 := hSw.c68 OK.out; go_simp; all_goals with_reducible rfl)
      try simp only [Act.put, List.setIfInBounds_toArray, List.set_cons_zero, List.set_cons_succ]
      refine wpAnyH_take (i := 10) (v := ?_) (by simp only [List.getElem?_toArray, List.getElem?_cons_succ, List.getElem?_cons_zero]; first | done | rfl) (by kernel_rfl) (by kernel_rfl) (by kernel_rfl) (fun _ _ _ h => h) (Or.inl ⟨by rfl, ?hy⟩) (by assumption) ?_
      case hy => (intro w hSw; (try dsimp only at hSw); have c67 := hSw.c67 OK.out; have c68 := hSw.c68 OK.out; go_simp; all_goals with_reducible rfl)
      try simp only [Act.put, List.setIfInBounds_toArray, List.set_cons_zero, List.set_cons_succ]
      refine wpAnyH_done (by kernel_rfl) ?_ _
      refine NoPanic.normal ?_
      go_wp2_with fail
      go_ret
      exact ⟨rfl, HB.out⟩
    exact AllReadyH.nil
  | true =>
    have HR := Lib.hid hr
    rw [show checkH y h = checkF y (msgF h) h.r h.s by unfold checkH; rw [hr]; rfl]
    clear hr
    go_enter Try.func19, Try.ntmps19
    go_upto_region 1 with fail
    refine wp_world (fun W => HA w.heap.size h W ∧ Below w.heap.size w W) ⟨HA.new _ _, bl_alloc (Below.refl _ _) _⟩ ?_
    rintro W ⟨hA, hB⟩
    have HH := Lib.hid hA
    have HB := Lib.hid hB
    clear hA hB
    refine wp_region_noPanic ?_
    refine wp_region_held_drew (S := (fun w' => HA w.heap.size h w')) (by kernel_rfl) ?_ (fun hHeld => ?_)
    · (try dsimp only); (repeat (first | exact HH.out | apply HA.drew | apply HA.drewN | apply HA.alloc))
    refine wpAnyH_take (i := 0) (by simp only [List.getElem?_toArray, List.getElem?_cons_succ, List.getElem?_cons_zero]; first | done | rfl) (by kernel_rfl) (by kernel_rfl) (by kernel_rfl) (fun _ _ _ h => h) (yields_head (by rfl) _ rfl w.heap.size h rfl OK.out (fun w hw => hw)) (by assumption) ?_
    try simp only [Act.put, List.setIfInBounds_toArray, List.set_cons_zero, List.set_cons_succ]
    refine wpAnyH_ready (rs := [1]) (by kernel_rfl) (by simp) ?_
    refine AllReadyH.cons (by simp only [List.getElem?_toArray, List.getElem?_cons_succ, List.getElem?_cons_zero]; first | done | rfl) (fun K hK => ?_) ?_
    · go_simp
      go_at_call 13
      refine (rright_any h _).mono ?_
      rintro e v2 ⟨rfl, hb2⟩
      rw [HR.out]
      have HH' := Lib.hid (HA.below (by repeat (first | exact HH.out | apply HA.drew | apply HA.drewN | apply HA.alloc)) hb2)
      have HB' := Lib.hid (bl_bl (by repeat (first | exact HB.out | apply bl_drew | apply bl_drewN | apply bl_alloc)) hb2)
      clear hb2
      have HH := HH'
      have HB := HB'
      clear HH' HB'
      refine hK.out _ _ ?_ (fun hHeld => ?_)
      · (try dsimp only); (repeat (first | exact HH.out | apply HA.drew | apply HA.drewN | apply HA.alloc))
      clear hK K
      try simp only [Act.put, List.setIfInBounds_toArray, List.set_cons_zero, List.set_cons_succ]
      refine wpAnyH_take (i := 2) (v := ?_) (by simp only [List.getElem?_toArray, List.getElem?_cons_succ, List.getElem?_cons_zero]; first | done | rfl) (by kernel_rfl) (by kernel_rfl) (by kernel_rfl) (fun _ _ _ h => h) (Or.inl ⟨by rfl, ?hy⟩) (by assumption) ?_
      case hy => (intro w hSw; (try dsimp only at hSw); have c67 := hSw.c67 OK.out; have c68 := hSw.c68 OK.out; go_simp; all_goals with_reducible rfl)
      try simp only [Act.put, List.setIfInBounds_toArray, List.set_cons_zero, List.set_cons_succ]
      refine wpAnyH_take (i := 3) (v := ?_) (by simp only [List.getElem?_toArray, List.getElem?_cons_succ, List.getElem?_cons_zero]; first | done | rfl) (by kernel_rfl) (by kernel_rfl) (by kernel_rfl) (fun _ _ _ h => h) (Or.inl ⟨by rfl, ?hy⟩) (by assumption) ?_
      case hy => (intro w hSw; (try dsimp only at hSw); have c67 := hSw.c67 OK.out; have c68 := hSw.c68 OK.out; go_simp; all_goals with_reducible rfl)
      try simp only [Act.put, List.setIfInBounds_toArray, List.set_cons_zero, List.set_cons_succ]
      refine wpAnyH_take (i := 4) (by simp only [List.getElem?_toArray, List.getElem?_cons_succ, List.getElem?_cons_zero]; first | done | rfl) (by kernel_rfl) (by kernel_rfl) (by kernel_rfl) (fun _ _ _ h => h) (yields_head (by rfl) _ rfl w.heap.size h rfl OK.out (fun w hw => hw)) (by assumption) ?_
      try simp only [Act.put, List.setIfInBounds_toArray, List.set_cons_zero, List.set_cons_succ]
      refine wpAnyH_take (i := 6) (v := ?_) (by simp only [List.getElem?_toArray, List.getElem?_cons_succ, List.getElem?_cons_zero]; first | done | rfl) (by kernel_rfl) (by kernel_rfl) (by kernel_rfl) (fun _ _ _ h => h) (Or.inl ⟨by rfl, ?hy⟩) (by assumption) ?_
      case hy => (intro w hSw; (try dsimp only at hSw); have c67 := hSw.c67 OK.out; have c68 := hSw.c68 OK.out; go_simp; all_goals with_reducible rfl)
      try simp only [Act.put, List.setIfInBounds_toArray, List.set_cons_zero, List.set_cons_succ]
      refine wpAnyH_take (i := 7) (v := ?_) (by simp only [List.getElem?_toArray, List.getElem?_cons_succ, List.getElem?_cons_zero]; first | done | rfl) (by kernel_rfl) (by kernel_rfl) (by kernel_rfl) (fun _ _ _ h => h) (Or.inl ⟨by rfl, ?hy⟩) (by assumption) ?_
      case hy => (intro w hSw; (try dsimp only at hSw); have c67 := hSw.c67 OK.out; have c68 := hSw.c68 OK.out; go_simp; all_goals with_reducible rfl)
      try simp only [Act.put, List.setIfInBounds_toArray, List.set_cons_zero, List.set_cons_succ]
      refine wpAnyH_ready (rs := [5]) (by kernel_rfl) (by simp) ?_
      refine AllReadyH.cons (by simp only [List.getElem?_toArray, List.getElem?_cons_succ, List.getElem?_cons_zero]; first | done | rfl) (fun K hK => ?_) ?_
      · go_simp
        go_at_call 15
        refine (rmsg_any h _ OK.out).mono ?_
        rintro e v2 ⟨u2, rfl, hu2, hb2⟩
        obtain ⟨b2, c2, rfl⟩ := hu2.rd.shape
        have HU := Lib.hid hu2.rd
        clear hu2
        have HH' := Lib.hid (HA.below (by repeat (first | exact HH.out | apply HA.drew | apply HA.drewN | apply HA.alloc)) hb2)
        have HB' := Lib.hid (bl_bl (by repeat (first | exact HB.out | apply bl_drew | apply bl_drewN | apply bl_alloc)) hb2)
        clear hb2
        have HH := HH'
        have HB := HB'
        clear HH' HB'
        refine hK.out _ _ ?_ (fun hHeld => ?_)
        · (try dsimp only); (repeat (first | exact HH.out | apply HA.drew | apply HA.drewN | apply HA.alloc))
        clear hK K
        try simp only [Act.put, List.setIfInBounds_toArray, List.set_cons_zero, List.set_cons_succ]
        refine wpAnyH_ready (rs := [8]) (by kernel_rfl) (by simp) ?_
        refine AllReadyH.cons (by simp only [List.getElem?_toArray, List.getElem?_cons_succ, List.getElem?_cons_zero]; first | done | rfl) (fun K hK => ?_) ?_
        · go_simp
          go_at_call 35
          refine (rcheck_any y h.r h.s _ (msgF h) _ y0 y1 OK.out.r.1 OK.out.r.2 OK.out.s.1 OK.out.s.2 (by repeat (first | exact HU.out | apply rd_drew | apply rd_drewN | apply rd_alloc)) (by rw [msgF_length h OK.out]; decide)).mono ?_
          rintro e v2 ⟨rfl, hb2⟩
          have HH' := Lib.hid (HA.below (by repeat (first | exact HH.out | apply HA.drew | apply HA.drewN | apply HA.alloc)) hb2)
          have HB' := Lib.hid (bl_bl (by repeat (first | exact HB.out | apply bl_drew | apply bl_drewN | apply bl_alloc)) hb2)
          clear hb2
          have HH := HH'
          have HB := HB'
          clear HH' HB'
          refine hK.out _ _ ?_ (fun hHeld => ?_)
          · (try dsimp only); (repeat (first | exact HH.out | apply HA.drew | apply HA.drewN | apply HA.alloc))
          clear hK K
          try simp only [Act.put, List.setIfInBounds_toArray, List.set_cons_zero, List.set_cons_succ]
          refine wpAnyH_take (i := 9) (v := ?_) (by simp only [List.getElem?_toArray, List.getElem?_cons_succ, List.getElem?_cons_zero]; first | done | rfl) (by kernel_rfl) (by kernel_rfl) (by kernel_rfl) (fun _ _ _ h => h) (Or.inl ⟨by rfl, ?hy⟩) (by assumption) ?_
          case hy => (intro w hSw; (try dsimp only at hSw); have c67 := hSw.c67 OK.out; have c68 := hSw.c68 OK.out; go_simp; all_goals with_reducible rfl)
          try simp only [Act.put, List.setIfInBounds_toArray, List.set_cons_zero, List.set_cons_succ]
          refine wpAnyH_take (i := 10) (v := ?_) (by simp only [List.getElem?_toArray, List.getElem?_cons_succ, List.getElem?_cons_zero]; first | done | rfl) (by kernel_rfl) (by kernel_rfl) (by kernel_rfl) (fun _ _ _ h => h) (Or.inl ⟨by rfl, ?hy⟩) (by assumption) ?_
          case hy => (intro w hSw; (try dsimp only at hSw); have c67 := hSw.c67 OK.out; have c68 := hSw.c68 OK.out; go_simp; all_goals with_reducible rfl)
          try simp only [Act.put, List.setIfInBounds_toArray, List.set_cons_zero, List.set_cons_succ]
          refine wpAnyH_done (by kernel_rfl) ?_ _
          refine NoPanic.normal ?_
          go_wp2_with fail
          go_ret
          exact ⟨rfl, HB.out⟩
        exact AllReadyH.nil
      exact AllReadyH.nil
    exact AllReadyH.nil

end Go.Proofs.Yteapoemockimfaa
