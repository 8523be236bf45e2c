/-
  Requests: Of and Read, the reference's.
-/
import Derived.Test.YtjfkkcoapeipbaaUpF
namespace Go.Proofs.Ytjfkkcoapeipbaa
set_option linter.unusedVariables false
set_option linter.unusedSimpArgs false
open Go.RowKit

/-- What stands while the reference's Read reads: the result's box, the reader. -/
structure RrI (w cur : World) (g : Nat) (z : RS) : Prop where
  res : UA w.heap.size zeroU cur
  bel : Below w.heap.size w cur
  rdr : RRx cur g z.l z.x
  lt : w.heap.size < g
theorem RrI.glt {w cur : World} {g : Nat} {z : RS} (h : RrI w cur g z) : g < cur.heap.size := h.rdr.lt
theorem RrI.read {w cur w' : World} {g : Nat} {z z' : RS} (h : RrI w cur g z) (hr : RRx w' g z'.l z'.x) (hg : cur.grownBy w' (some g)) : RrI w w' g z' :=
  ⟨h.res.grown hg (fun e => by have := h.lt; simp at e; omega), below_grown h.bel hg (fun k hk => by have := h.lt; simp at hk; omega), hr, h.lt⟩
theorem RrI.below {w cur w' : World} {g : Nat} {z : RS} (h : RrI w cur g z) (hb : Below cur.heap.size cur w') : RrI w w' g z := ⟨h.res.below hb, bl_bl h.bel hb, h.rdr.below hb, h.lt⟩
theorem RrI.alloc {w cur : World} {g : Nat} {z : RS} (h : RrI w cur g z) (o : Obj) : RrI w (cur.alloc o) g z := h.below (bl_alloc (Below.refl _ _) o)
theorem RrI.drewN {w cur : World} {g : Nat} {z : RS} (h : RrI w cur g z) (n : Nat) : RrI w (cur.drewN n) g z := h.below (Dr.below (Dr.drewN (Dr.refl _) n) _)
theorem RrI.drew {w cur : World} {g : Nat} {z : RS} (h : RrI w cur g z) : RrI w cur.drew g z := h.drewN 1
theorem RrI.setRow {w cur : World} {g k : Nat} {z : RS} (h : RrI w cur g z) (hk : g < k) (cs : Array Value) : RrI w (cur.setRow k cs) g z := by
  have h1 := h.lt
  exact ⟨⟨by rw [setRow_other _ _ _ _ (by omega)]; exact h.res.row⟩, below_setRow h.bel (by omega), h.rdr.setRow hk cs, h.lt⟩
theorem RrI.setCell {w cur : World} {g k o : Nat} {z : RS} (h : RrI w cur g z) (hk : g < k) (u : Value) : RrI w (cur.setCell ⟨k, o, none⟩ u) g z := by
  have h1 := h.lt
  exact ⟨⟨by rw [heap_far _ _ _ _ _ (by omega)]; exact h.res.row⟩, below_set h.bel _ _ _ (by omega), h.rdr.setCell hk u, h.lt⟩
theorem RrI.c1 {w cur : World} {g : Nat} {z : RS} (h : RrI w cur g z) (u : Up) : (cur.setRow w.heap.size u.cells.toArray).cell? ⟨g, 1, none⟩ = some (.int .i64 z.x) := by
  have h1 := h.lt
  have h2 := h.rdr.c1
  rw [World.cell?_of_block (setRow_other _ _ _ _ (show g ≠ w.heap.size by omega))]
  exact h2
theorem UA.set4 {g : Nat} {u : Up} {w : World} (k : UA g u w) (r : Int) : UA g { u with r := r } (w.setCell ⟨g, 4, none⟩ (.int .u64 r)) := by
  refine ⟨?_⟩
  rw [heap_setCell_same _ _ _ _ _ _ k.row]
  rfl
theorem UA.set5 {g : Nat} {u : Up} {w : World} (k : UA g u w) (s : Int) : UA g { u with s := s } (w.setCell ⟨g, 5, none⟩ (.int .u64 s)) := by
  refine ⟨?_⟩
  rw [heap_setCell_same _ _ _ _ _ _ k.row]
  rfl
theorem grown_trans' {a b c : World} {r : Option Nat} (h : a.grownBy b r) (k : b.grownBy c r) : a.grownBy c r := grown_trans h k
def preUr (b : List UInt8) : Up := ⟨lmpOut 32 b 0, intF (ust b 0).num, (ust b 1).num, intF (ust b 2).num, 0, 0⟩
theorem preUr_sig (b : List UInt8) : ({ ({ preUr b with r := (ust b 3).num } : Up) with s := (ust b 4).num } : Up) = parseU intF b := rfl
attribute [local irreducible] ust lmpOut parseU RS.num rightU nearV intF

set_option maxRecDepth 100000 in
set_option maxHeartbeats 3200000 in
theorem rof_any (g : Nat) (b : List UInt8) (w : World) (hr : RRx w g b 0) (hl : b.length ≤ 1099511627776) :
    Calls Try.prog 38 #[.pointer (some ⟨g, 0, none⟩)] w fun e w' => e = .returned (entV (lmpOut 32 b 0) (intF (ust b 0).num) (ust b 1).num) ∧ RRx w' g (ust b 2).l (ust b 2).x ∧ w.grownBy w' (some g) := by
  have HR := Lib.hid hr
  have HLT := Lib.hid hr.lt
  clear hr
  go_enter Try.func38, Try.ntmps38
  go_upto_region 1 with fail
  rw [ent_zero]
  refine wp_world (fun W => EA w.heap.size [] 0 0 W ∧ RRx W g b 0 ∧ w.grownBy W (some g)) ⟨EA.new _ _ _ _, HR.out.below (bl_alloc (Below.refl _ _) _), gb_alloc (World.grownBy.refl _ _) _⟩ ?_
  rintro W ⟨hE, hR, hG⟩
  have HE := Lib.hid hE
  have HR0 := Lib.hid hR
  have HG := Lib.hid hG
  clear hE hR hG
  go_wp2_with fail
  refine (rlump_u g b _ HR0.out hl).mono ?_
  rintro e w1 ⟨v, rfl, hv, hr, hg⟩
  obtain ⟨a1, d1, rfl⟩ := hv.shape
  have HV := Lib.hid hv
  have HR1 := Lib.hid hr
  have HE1 := Lib.hid (HE.out.grown hg (fun e => by have := HLT.out; simp at e; omega))
  have HG1 := Lib.hid (grown_trans' HG.out hg)
  clear hv hr hg
  go_wp2_with (rw [conv_rd HV.out])
  refine (rint_u g b 0 _ HR1.out hl).mono ?_
  rintro e w2 ⟨rfl, hr, hg⟩
  have HR2 := Lib.hid hr
  have HE2 := Lib.hid (HE1.out.grown hg (fun e => by have := HLT.out; simp at e; omega))
  have HG2 := Lib.hid (grown_trans' HG1.out hg)
  clear hr hg
  go_wp2_with fail
  refine (rnum_u g b 1 _ HR2.out hl).mono ?_
  rintro e w3 ⟨rfl, hr, hg⟩
  have HR3 := Lib.hid hr
  have HE3 := Lib.hid (HE2.out.grown hg (fun e => by have := HLT.out; simp at e; omega))
  have HG3 := Lib.hid (grown_trans' HG2.out hg)
  clear hr hg
  go_wp2_with (first
    | refine wpList_built rfl 47 #[(0, .tmp 10), (1, .tmp 11), (2, .tmp 13)] rfl [(0, .string ⟨(lmpOut 32 b 0).toArray⟩), (1, .int .i64 (intF (ust b 0).num)), (2, .int .u64 (ust b 1).num)] (by simp only [List.map_toArray, List.map_cons, List.map_nil]; rfl) (entCells (lmpOut 32 b 0) (intF (ust b 0).num) (ust b 1).num).toArray (built_ent _ _ _) ?_
    | refine wpList_store_row rfl 47 (.tmp 2) (.tmp 14) rfl w.heap.size (entCells (lmpOut 32 b 0) (intF (ust b 0).num) (ust b 1).num).toArray rfl rfl 47 _ HE3.out.row (ent_size _ _ _) rfl (all_oneCell_toArray (entCells_one _ _ _)) ?_)
  exact bodyPost_ret (v := entV (lmpOut 32 b 0) (intF (ust b 0).num) (ust b 1).num) (results_cell_row rfl _ _ w.heap.size 47 _ (0, 0) _ rfl (setRow_heap _ _ _ _ _ _ HE3.out.row) Try.underlying47 rfl (ent_size _ _ _)) rfl ⟨rfl, HR3.out.setRow HLT.out _, grown_other HG3.out (Nat.le_refl _) _⟩

set_option maxRecDepth 100000 in
set_option maxHeartbeats 3200000 in
theorem rreadU_any (v : Value) (b : List UInt8) (w : World) (hv : Rd w v b) (hl : b.length ≤ 1099511627776) : Calls Try.prog 12 #[v] w (GivesReadU w b) := by
  obtain ⟨p, c, rfl⟩ := hv.shape
  have HV := Lib.hid hv
  clear hv
  unfold GivesReadU
  by_cases h1 : 512 < b.length
  · have he : readU b = (zeroU, 22) := by unfold readU; rw [if_pos h1]
    rw [he]; clear he
    have h1' : (512 : Int) < (b.length : Int) := by omega
    go_enter Try.func12, Try.ntmps12
    go_upto_region 1 with fail
    rw [up_zero]
    refine wp_world (fun W => UA w.heap.size zeroU W ∧ Below w.heap.size w W) ⟨UA.new zeroU w, bl_alloc (Below.refl _ _) _⟩ ?_
    rintro W ⟨hA, hB⟩
    have HH := Lib.hid hA
    have HB := Lib.hid hB
    clear hA hB
    go_upto_region 2 with fail
    refine wp_region_lit ?_
    refine wpList_built rfl 30 #[] rfl [] (by simp) zeroU.cells.toArray built_up0 ?_
    refine wpList_store_row rfl 30 (.tmp 2) (.tmp 10) rfl w.heap.size zeroU.cells.toArray rfl rfl 30 _ HH.out.row (up_size _) rfl (all_oneCell_toArray zeroU.cells_one) ?_
    go_wp2_with fail
    exact bodyPost_ret (v := .tuple #[upV zeroU, .int .i64 22]) (results_row_tmp (p := 2) (u := 3) rfl _ _ w.heap.size zeroU.cells.toArray rfl (up_loads ⟨setRow_heap _ _ _ _ _ _ HH.out.row⟩)) rfl ⟨rfl, below_setRow HB.out (Nat.le_refl _)⟩
  have h1' : ¬ ((512 : Int) < (b.length : Int)) := by omega
  have hrd : readU b = if (ust b 5).x = 0 then (if 0 < (ust b 5).l.length then (zeroU, 20) else if rightU (parseU intF b) then (parseU intF b, 0) else (zeroU, 23)) else (zeroU, (ust b 5).x) := by
    rw [readU_int, if_neg h1]
  have HRD := Lib.hid hrd
  clear hrd
  go_enter Try.func12, Try.ntmps12
  go_upto_region 1 with fail
  rw [up_zero]
  refine wp_world (fun W => UA w.heap.size zeroU W ∧ Below w.heap.size w W) ⟨UA.new zeroU w, bl_alloc (Below.refl _ _) _⟩ ?_
  rintro W ⟨hA, hB⟩
  have HH := Lib.hid hA
  have HB := Lib.hid hB
  have hwl := hA.lt
  clear hA hB
  go_upto_region 4 with fail
  refine wp_world (fun Y => RrI w Y W.heap.size ⟨b, 0⟩) ⟨HH.out.alloc _, bl_alloc HB.out _, ⟨_, heap_alloc_new _ _, (HV.out.below HB.out).below (bl_alloc (Below.refl _ _) _), rd_oldif (HV.out.below HB.out) (Nat.le_refl _)⟩, hwl⟩ ?_
  generalize W.heap.size = g
  clear HH HB hwl W
  intro Y hY
  have HI := Lib.hid hY
  clear hY
  go_wp2_with fail
  refine (rof_any g b _ HI.out.rdr hl).mono ?_
  rintro e w1 ⟨rfl, hr, hg⟩
  have HI1 := Lib.hid (HI.out.read (z' := ust b 2) hr hg)
  clear hr hg
  go_upto_region 5 with (refine wpList_store_row rfl 47 (.tmp 5) (.tmp 15) rfl w1.heap.size (entCells (lmpOut 32 b 0) (intF (ust b 0).num) (ust b 1).num).toArray rfl rfl 47 _ (heap_alloc_new _ _) (ent_size _ _ _) rfl (all_oneCell_toArray (entCells_one _ _ _)) ?_)
  refine wp_world (fun Z => EA w1.heap.size (lmpOut 32 b 0) (intF (ust b 0).num) (ust b 1).num Z ∧ RrI w Z g (ust b 2) ∧ g < w1.heap.size) ⟨⟨setRow_heap _ _ _ _ _ _ (heap_alloc_new _ _)⟩, HI1.out.below (below_fresh _ _ _), HI1.out.glt⟩ ?_
  generalize w1.heap.size = ge
  clear HI HI1 w1 Y
  rintro W ⟨hE, hI, hge⟩
  have HI := Lib.hid hI
  have HE := Lib.hid hE
  have HGE := Lib.hid hge
  clear hI hE hge
  (try simp only [Act.put, List.setIfInBounds_toArray, List.set_cons_zero, List.set_cons_succ])
  go_cut [6] (fun s6 wx => ∃ g6, s6 = .pointer (some ⟨g6, 0, none⟩) ∧ RrI w wx g (ust b 3) ∧ UA g6 (preUr b) wx ∧ g < g6)
  case first =>
    refine wp_region_noPanic ?_
    refine wp_region_held_drew (S := (fun w' => EA ge (lmpOut 32 b 0) (intF (ust b 0).num) (ust b 1).num w')) (by kernel_rfl) ?_ (fun hHeld => ?_)
    · (try dsimp only); (first | done | (repeat (first | exact HE.out | apply EA.drew | apply EA.drewN | apply EA.alloc)))
    refine wpAnyH_take (i := 0) (v := ?_) (by simp only [List.getElem?_toArray, List.getElem?_cons_succ, List.getElem?_cons_zero]; first | done | rfl) (by kernel_rfl) (by kernel_rfl) (by kernel_rfl) (fun _ _ _ h => h) (Or.inl ⟨by rfl, ?hy⟩) (by assumption) ?_
    case hy => (intro w hSw; (try dsimp only at hSw); have c0 := hSw.c0; have c1 := hSw.c1; have c2 := hSw.c2; go_simp; all_goals with_reducible rfl)
    try simp only [Act.put, List.setIfInBounds_toArray, List.set_cons_zero, List.set_cons_succ]
    refine wpAnyH_take (i := 1) (v := ?_) (by simp only [List.getElem?_toArray, List.getElem?_cons_succ, List.getElem?_cons_zero]; first | done | rfl) (by kernel_rfl) (by kernel_rfl) (by kernel_rfl) (fun _ _ _ h => h) (Or.inl ⟨by rfl, ?hy⟩) (by assumption) ?_
    case hy => (intro w hSw; (try dsimp only at hSw); have c0 := hSw.c0; have c1 := hSw.c1; have c2 := hSw.c2; go_simp; all_goals with_reducible rfl)
    try simp only [Act.put, List.setIfInBounds_toArray, List.set_cons_zero, List.set_cons_succ]
    refine wpAnyH_take (i := 2) (v := ?_) (by simp only [List.getElem?_toArray, List.getElem?_cons_succ, List.getElem?_cons_zero]; first | done | rfl) (by kernel_rfl) (by kernel_rfl) (by kernel_rfl) (fun _ _ _ h => h) (Or.inl ⟨by rfl, ?hy⟩) (by assumption) ?_
    case hy => (intro w hSw; (try dsimp only at hSw); have c0 := hSw.c0; have c1 := hSw.c1; have c2 := hSw.c2; go_simp; all_goals with_reducible rfl)
    try simp only [Act.put, List.setIfInBounds_toArray, List.set_cons_zero, List.set_cons_succ]
    refine wpAnyH_take (i := 3) (v := ?_) (by simp only [List.getElem?_toArray, List.getElem?_cons_succ, List.getElem?_cons_zero]; first | done | rfl) (by kernel_rfl) (by kernel_rfl) (by kernel_rfl) (fun _ _ _ h => h) (Or.inl ⟨by rfl, ?hy⟩) (by assumption) ?_
    case hy => (intro w hSw; (try dsimp only at hSw); have c0 := hSw.c0; have c1 := hSw.c1; have c2 := hSw.c2; go_simp; all_goals with_reducible rfl)
    try simp only [Act.put, List.setIfInBounds_toArray, List.set_cons_zero, List.set_cons_succ]
    refine wpAnyH_take (i := 4) (v := ?_) (by simp only [List.getElem?_toArray, List.getElem?_cons_succ, List.getElem?_cons_zero]; first | done | rfl) (by kernel_rfl) (by kernel_rfl) (by kernel_rfl) (fun _ _ _ h => h) (Or.inl ⟨by rfl, ?hy⟩) (by assumption) ?_
    case hy => (intro w hSw; (try dsimp only at hSw); have c0 := hSw.c0; have c1 := hSw.c1; have c2 := hSw.c2; go_simp; all_goals with_reducible rfl)
    try simp only [Act.put, List.setIfInBounds_toArray, List.set_cons_zero, List.set_cons_succ]
    refine wpAnyH_take (i := 5) (v := ?_) (by simp only [List.getElem?_toArray, List.getElem?_cons_succ, List.getElem?_cons_zero]; first | done | rfl) (by kernel_rfl) (by kernel_rfl) (by kernel_rfl) (fun _ _ _ h => h) (Or.inl ⟨by rfl, ?hy⟩) (by assumption) ?_
    case hy => (intro w hSw; (try dsimp only at hSw); have c0 := hSw.c0; have c1 := hSw.c1; have c2 := hSw.c2; go_simp; all_goals with_reducible rfl)
    try simp only [Act.put, List.setIfInBounds_toArray, List.set_cons_zero, List.set_cons_succ]
    refine wpAnyH_take (i := 6) (v := ?_) (by simp only [List.getElem?_toArray, List.getElem?_cons_succ, List.getElem?_cons_zero]; first | done | rfl) (by kernel_rfl) (by kernel_rfl) (by kernel_rfl) (fun _ _ _ h => h) (Or.inl ⟨by rfl, ?hy⟩) (by assumption) ?_
    case hy => (intro w hSw; (try dsimp only at hSw); have c0 := hSw.c0; have c1 := hSw.c1; have c2 := hSw.c2; go_simp; all_goals with_reducible rfl)
    try simp only [Act.put, List.setIfInBounds_toArray, List.set_cons_zero, List.set_cons_succ]
    refine wpAnyH_ready (rs := [7, 9]) (by kernel_rfl) (by simp) ?_
    refine AllReadyH.cons (by simp only [List.getElem?_toArray, List.getElem?_cons_succ, List.getElem?_cons_zero]; first | done | rfl) (fun K hK => ?_) ?_
    · skip
      refine step_call rfl (rint_u g b 2 _ (RrI.rdr (by repeat (first | exact HI.out | apply RrI.drew | apply RrI.drewN | apply RrI.alloc))) hl) (by go_simp) ?_
      rintro e v2 ⟨rfl, hr, hg⟩
      refine ⟨_, rfl, ?_⟩
      have HI' := Lib.hid (RrI.read (z' := ust b 3) (by repeat (first | exact HI.out | apply RrI.drew | apply RrI.drewN | apply RrI.alloc)) hr hg)
      have HE' := Lib.hid (EA.grown (by repeat (first | exact HE.out | apply EA.drew | apply EA.drewN | apply EA.alloc)) hg (fun e => by have := HGE.out; simp at e; omega))
      clear hr hg HI HE
      have HI := HI'
      have HE := HE'
      clear HI' HE'
      refine hK.out _ _ ?_ (fun hHeld => ?_)
      · (try dsimp only); (first | done | (repeat (first | exact HE.out | apply EA.drew | apply EA.drewN | apply EA.alloc)))
      clear hK K
      try simp only [Act.put, List.setIfInBounds_toArray, List.set_cons_zero, List.set_cons_succ]
      refine wpAnyH_take (i := 8) (v := ?_) (by simp only [List.getElem?_toArray, List.getElem?_cons_succ, List.getElem?_cons_zero]; first | done | rfl) (by kernel_rfl) (by kernel_rfl) (by kernel_rfl) (fun _ _ _ h => h) (Or.inl ⟨by rfl, ?hy⟩) (by assumption) ?_
      case hy => (intro w hSw; (try dsimp only at hSw); have c0 := hSw.c0; have c1 := hSw.c1; have c2 := hSw.c2; go_simp; all_goals with_reducible rfl)
      try simp only [Act.put, List.setIfInBounds_toArray, List.set_cons_zero, List.set_cons_succ]
      refine wpAnyH_ready (rs := [9]) (by kernel_rfl) (by simp) ?_
      refine AllReadyH.cons (by simp only [List.getElem?_toArray, List.getElem?_cons_succ, List.getElem?_cons_zero]; first | done | rfl) (fun K hK => ?_) ?_
      · skip
        refine step_value rfl (run_alloc_op rfl (run_alloc_up _)) ?_
        try dsimp only
        obtain ⟨g6, hg6⟩ : ∃ g6, g6 = v2.heap.size := ⟨_, rfl⟩
        try rw [show v2.drew.heap.size = v2.heap.size from rfl]
        rw [← hg6]
        refine k_world (fun W' => UA g6 zeroU W' ∧ RrI w W' g (ust b 3) ∧ EA ge (lmpOut 32 b 0) (intF (ust b 0).num) (ust b 1).num W' ∧ g < g6 ∧ ge < g6) ⟨(by rw [hg6]; first | exact UA.new zeroU _ | exact (UA.new zeroU _).drew), (by repeat (first | exact HI.out | apply RrI.drew | apply RrI.drewN | apply RrI.alloc)), (by repeat (first | exact HE.out | apply EA.drew | apply EA.drewN | apply EA.alloc)), (by rw [hg6]; exact RrI.glt (by repeat (first | exact HI.out | apply RrI.drew | apply RrI.drewN | apply RrI.alloc))), (by rw [hg6]; exact EA.lt (by repeat (first | exact HE.out | apply EA.drew | apply EA.drewN | apply EA.alloc)))⟩ ?_
        rintro v2 ⟨hu, hi, he, hgg, hne⟩
        have HNE := Lib.hid hne
        have HU := Lib.hid hu
        have HGG := Lib.hid hgg
        clear HI HE
        have HI := Lib.hid hi
        have HE := Lib.hid he
        clear hu hi hgg hg6 he hne
        refine hK.out _ _ ?_ (fun hHeld => ?_)
        · (try dsimp only); (first | done | (repeat (first | exact HE.out | apply EA.drew | apply EA.drewN | apply EA.alloc)))
        clear hK K
        try simp only [Act.put, List.setIfInBounds_toArray, List.set_cons_zero, List.set_cons_succ]
        refine wpAnyH_ready (rs := [10]) (by kernel_rfl) (by simp) ?_
        refine AllReadyH.cons (by simp only [List.getElem?_toArray, List.getElem?_cons_succ, List.getElem?_cons_zero]; first | done | rfl) (fun K hK => ?_) ?_
        · skip
          refine step_store_up rfl (.tmp 6) (.tmp 24) rfl g6 (preUr b) rfl rfl zeroU (by repeat (first | exact HU.out | apply UA.drew | apply UA.drewN | apply UA.alloc)) ?_
          intro v2 hv2
          have HG := Lib.hid (show RrI w v2 g (ust b 3) ∧ UA g6 (preUr b) v2 ∧ EA ge (lmpOut 32 b 0) (intF (ust b 0).num) (ust b 1).num v2 from ⟨by rw [hv2]; exact RrI.setRow (by repeat (first | exact HI.out | apply RrI.drew | apply RrI.drewN | apply RrI.alloc)) HGG.out _, by rw [hv2]; exact ⟨setRow_heap _ _ _ _ _ _ (UA.row (by repeat (first | exact HU.out | apply UA.drew | apply UA.drewN | apply UA.alloc)))⟩, by rw [hv2]; exact ⟨by rw [setRow_other _ _ _ _ (by have := HNE.out; omega)]; exact EA.row (by repeat (first | exact HE.out | apply EA.drew | apply EA.drewN | apply EA.alloc))⟩⟩)
          clear hv2
          have HE := Lib.hid HG.out.2.2
          refine hK.out _ _ ?_ (fun hHeld => ?_)
          · (try dsimp only); (first | done | (repeat (first | exact HE.out | apply EA.drew | apply EA.drewN | apply EA.alloc)))
          clear hK K
          try simp only [Act.put, List.setIfInBounds_toArray, List.set_cons_zero, List.set_cons_succ]
          refine wpAnyH_done (by kernel_rfl) ?_ _
          refine NoPanic.normal ?_
          go_wp2_with fail
          go_meet
          exact ⟨g6, rfl, HG.out.1, HG.out.2.1, HGG.out⟩
        exact AllReadyH.nil
      exact AllReadyH.nil
    refine AllReadyH.cons (by simp only [List.getElem?_toArray, List.getElem?_cons_succ, List.getElem?_cons_zero]; first | done | rfl) (fun K hK => ?_) ?_
    · skip
      refine step_value rfl (run_alloc_op rfl (run_alloc_up _)) ?_
      try dsimp only
      obtain ⟨g6, hg6⟩ : ∃ g6, g6 = W.heap.size := ⟨_, rfl⟩
      try rw [show W.drew.heap.size = W.heap.size from rfl]
      rw [← hg6]
      refine k_world (fun W' => UA g6 zeroU W' ∧ RrI w W' g (ust b 2) ∧ EA ge (lmpOut 32 b 0) (intF (ust b 0).num) (ust b 1).num W' ∧ g < g6 ∧ ge < g6) ⟨(by rw [hg6]; first | exact UA.new zeroU _ | exact (UA.new zeroU _).drew), (by repeat (first | exact HI.out | apply RrI.drew | apply RrI.drewN | apply RrI.alloc)), (by repeat (first | exact HE.out | apply EA.drew | apply EA.drewN | apply EA.alloc)), (by rw [hg6]; exact RrI.glt (by repeat (first | exact HI.out | apply RrI.drew | apply RrI.drewN | apply RrI.alloc))), (by rw [hg6]; exact EA.lt (by repeat (first | exact HE.out | apply EA.drew | apply EA.drewN | apply EA.alloc)))⟩ ?_
      rintro v2 ⟨hu, hi, he, hgg, hne⟩
      have HNE := Lib.hid hne
      have HU := Lib.hid hu
      have HGG := Lib.hid hgg
      clear HI HE
      have HI := Lib.hid hi
      have HE := Lib.hid he
      clear hu hi hgg hg6 he hne
      refine hK.out _ _ ?_ (fun hHeld => ?_)
      · (try dsimp only); (first | done | (repeat (first | exact HE.out | apply EA.drew | apply EA.drewN | apply EA.alloc)))
      clear hK K
      try simp only [Act.put, List.setIfInBounds_toArray, List.set_cons_zero, List.set_cons_succ]
      refine wpAnyH_ready (rs := [7]) (by kernel_rfl) (by simp) ?_
      refine AllReadyH.cons (by simp only [List.getElem?_toArray, List.getElem?_cons_succ, List.getElem?_cons_zero]; first | done | rfl) (fun K hK => ?_) ?_
      · skip
        refine step_call rfl (rint_u g b 2 _ (RrI.rdr (by repeat (first | exact HI.out | apply RrI.drew | apply RrI.drewN | apply RrI.alloc))) hl) (by go_simp) ?_
        rintro e v2 ⟨rfl, hr, hg⟩
        refine ⟨_, rfl, ?_⟩
        have HI' := Lib.hid (RrI.read (z' := ust b 3) (by repeat (first | exact HI.out | apply RrI.drew | apply RrI.drewN | apply RrI.alloc)) hr hg)
        have HE' := Lib.hid (EA.grown (by repeat (first | exact HE.out | apply EA.drew | apply EA.drewN | apply EA.alloc)) hg (fun e => by have := HGE.out; simp at e; omega))
        have HU' := Lib.hid (UA.grown (by repeat (first | exact HU.out | apply UA.drew | apply UA.drewN | apply UA.alloc)) hg (fun e => by have := HGG.out; simp at e; omega))
        clear hr hg HI HE
        have HI := HI'
        have HE := HE'
        clear HI' HE'
        clear HU
        have HU := HU'
        clear HU'
        refine hK.out _ _ ?_ (fun hHeld => ?_)
        · (try dsimp only); (first | done | (repeat (first | exact HE.out | apply EA.drew | apply EA.drewN | apply EA.alloc)))
        clear hK K
        try simp only [Act.put, List.setIfInBounds_toArray, List.set_cons_zero, List.set_cons_succ]
        refine wpAnyH_take (i := 8) (v := ?_) (by simp only [List.getElem?_toArray, List.getElem?_cons_succ, List.getElem?_cons_zero]; first | done | rfl) (by kernel_rfl) (by kernel_rfl) (by kernel_rfl) (fun _ _ _ h => h) (Or.inl ⟨by rfl, ?hy⟩) (by assumption) ?_
        case hy => (intro w hSw; (try dsimp only at hSw); have c0 := hSw.c0; have c1 := hSw.c1; have c2 := hSw.c2; go_simp; all_goals with_reducible rfl)
        try simp only [Act.put, List.setIfInBounds_toArray, List.set_cons_zero, List.set_cons_succ]
        refine wpAnyH_ready (rs := [10]) (by kernel_rfl) (by simp) ?_
        refine AllReadyH.cons (by simp only [List.getElem?_toArray, List.getElem?_cons_succ, List.getElem?_cons_zero]; first | done | rfl) (fun K hK => ?_) ?_
        · skip
          refine step_store_up rfl (.tmp 6) (.tmp 24) rfl g6 (preUr b) rfl rfl zeroU (by repeat (first | exact HU.out | apply UA.drew | apply UA.drewN | apply UA.alloc)) ?_
          intro v2 hv2
          have HG := Lib.hid (show RrI w v2 g (ust b 3) ∧ UA g6 (preUr b) v2 ∧ EA ge (lmpOut 32 b 0) (intF (ust b 0).num) (ust b 1).num v2 from ⟨by rw [hv2]; exact RrI.setRow (by repeat (first | exact HI.out | apply RrI.drew | apply RrI.drewN | apply RrI.alloc)) HGG.out _, by rw [hv2]; exact ⟨setRow_heap _ _ _ _ _ _ (UA.row (by repeat (first | exact HU.out | apply UA.drew | apply UA.drewN | apply UA.alloc)))⟩, by rw [hv2]; exact ⟨by rw [setRow_other _ _ _ _ (by have := HNE.out; omega)]; exact EA.row (by repeat (first | exact HE.out | apply EA.drew | apply EA.drewN | apply EA.alloc))⟩⟩)
          clear hv2
          have HE := Lib.hid HG.out.2.2
          refine hK.out _ _ ?_ (fun hHeld => ?_)
          · (try dsimp only); (first | done | (repeat (first | exact HE.out | apply EA.drew | apply EA.drewN | apply EA.alloc)))
          clear hK K
          try simp only [Act.put, List.setIfInBounds_toArray, List.set_cons_zero, List.set_cons_succ]
          refine wpAnyH_done (by kernel_rfl) ?_ _
          refine NoPanic.normal ?_
          go_wp2_with fail
          go_meet
          exact ⟨g6, rfl, HG.out.1, HG.out.2.1, HGG.out⟩
        exact AllReadyH.nil
      exact AllReadyH.nil
    exact AllReadyH.nil
  case rest =>
    obtain ⟨g6, rfl, hi, hu, hgg⟩ := hcut
    clear HI HE HGE
    have HI := Lib.hid hi
    have HU := Lib.hid hu
    have HGG := Lib.hid hgg
    clear hi hu hgg
    go_wp2_with fail
    refine (rnum_u g b 3 _ HI.out.rdr hl).mono ?_
    rintro e w3 ⟨rfl, hr, hg⟩
    have HI3 := Lib.hid (HI.out.read (z' := ust b 4) hr hg)
    have HU3 := Lib.hid (HU.out.grown hg (fun e => by have := HGG.out; simp at e; omega))
    clear hr hg
    have c4 := HU3.out.c4
    have f4 := frozen_of_row _ _ 4 _ _ HU3.out.row
    go_upto_region 7 with fail
    refine wp_world (fun Z => RrI w Z g (ust b 4) ∧ UA g6 { preUr b with r := (ust b 3).num } Z) ⟨HI3.out.setCell HGG.out _, HU3.out.set4 _⟩ ?_
    rintro Z ⟨hI, hG⟩
    have HI4 := Lib.hid hI
    have HU4 := Lib.hid hG
    clear hI hG c4 f4
    go_wp2_with fail
    refine (rnum_u g b 4 _ HI4.out.rdr hl).mono ?_
    rintro e w4 ⟨rfl, hr, hg⟩
    have HI4' := Lib.hid (HI4.out.read (z' := ust b 5) hr hg)
    have HU4' := Lib.hid (HU4.out.grown hg (fun e => by have := HGG.out; simp at e; omega))
    clear hr hg
    have c5 := HU4'.out.c5
    have f5 := frozen_of_row _ _ 5 _ _ HU4'.out.row
    go_upto_region 8 with fail
    refine wp_world (fun Z => RrI w Z g (ust b 5) ∧ UA g6 (parseU intF b) Z) ⟨HI4'.out.setCell HGG.out _, by have h := HU4'.out.set5 (ust b 4).num; rw [preUr_sig] at h; exact h⟩ ?_
    rintro Z2 ⟨hI, hG⟩
    have HI5 := Lib.hid hI
    have HU5 := Lib.hid hG
    clear hI hG c5 f5
    generalize parseU intF b = P at *
    have c1 := HI5.out.rdr.c1
    obtain ⟨a0, d0, c0⟩ := HI5.out.rdr.c0
    by_cases hx : (ust b 5).x = 0
    case neg =>
      have hrd := HRD.out
      rw [if_neg hx] at hrd
      have HEE := Lib.hid hrd
      clear hrd
      have hx1 : ((ust b 5).x != 0) = true := by simpa using hx
      go_upto_region 9 with fail
      refine wp_region_noPanic ?_
      refine wp_region_held_drew (S := (fun w' => w'.cell? ⟨g, 1, none⟩ = some (.int .i64 (ust b 5).x))) (by kernel_rfl) ?_ (fun hHeld => ?_)
      · (try dsimp only); (first | exact RRx.c1 (RrI.rdr (RrI.drew HI5.out)) | (rw [HV2.out]; exact RrI.c1 (RrI.drew HI5.out) zeroU))
      refine wpAnyH_take (i := 0) (v := ?_) (by simp only [List.getElem?_toArray, List.getElem?_cons_succ, List.getElem?_cons_zero]; first | done | rfl) (by kernel_rfl) (by kernel_rfl) (by kernel_rfl) (fun _ _ _ h => h) (Or.inl ⟨by rfl, ?hy⟩) (by assumption) ?_
      case hy => (intro w hSw; (try dsimp only at hSw); go_simp; all_goals with_reducible rfl)
      try simp only [Act.put, List.setIfInBounds_toArray, List.set_cons_zero, List.set_cons_succ]
      refine wpAnyH_take (i := 1) (v := ?_) (by simp only [List.getElem?_toArray, List.getElem?_cons_succ, List.getElem?_cons_zero]; first | done | rfl) (by kernel_rfl) (by kernel_rfl) (by kernel_rfl) (fun _ _ _ h => h) (Or.inl ⟨by rfl, ?hy⟩) (by assumption) ?_
      case hy => (intro w hSw; (try dsimp only at hSw); go_simp; all_goals with_reducible rfl)
      try simp only [Act.put, List.setIfInBounds_toArray, List.set_cons_zero, List.set_cons_succ]
      refine wpAnyH_take (i := 2) (v := ?_) (by simp only [List.getElem?_toArray, List.getElem?_cons_succ, List.getElem?_cons_zero]; first | done | rfl) (by kernel_rfl) (by kernel_rfl) (by kernel_rfl) (fun _ _ _ h => h) (Or.inl ⟨by rfl, ?hy⟩) (by assumption) ?_
      case hy => (intro w hSw; (try dsimp only at hSw); go_simp; all_goals with_reducible rfl)
      try simp only [Act.put, List.setIfInBounds_toArray, List.set_cons_zero, List.set_cons_succ]
      refine wpAnyH_take (i := 3) (v := ?_) (by simp only [List.getElem?_toArray, List.getElem?_cons_succ, List.getElem?_cons_zero]; first | done | rfl) (by kernel_rfl) (by kernel_rfl) (by kernel_rfl) (fun _ _ _ h => h) (Or.inl ⟨by rfl, ?hy⟩) (by assumption) ?_
      case hy => (intro w hSw; (try dsimp only at hSw); go_simp; all_goals with_reducible rfl)
      try simp only [Act.put, List.setIfInBounds_toArray, List.set_cons_zero, List.set_cons_succ]
      refine wpAnyH_take (i := 4) (v := ?_) (by simp only [List.getElem?_toArray, List.getElem?_cons_succ, List.getElem?_cons_zero]; first | done | rfl) (by kernel_rfl) (by kernel_rfl) (by kernel_rfl) (fun _ _ _ h => h) (Or.inl ⟨by rfl, ?hy⟩) (by assumption) ?_
      case hy => (intro w hSw; (try dsimp only at hSw); go_simp; all_goals with_reducible rfl)
      try simp only [Act.put, List.setIfInBounds_toArray, List.set_cons_zero, List.set_cons_succ]
      refine wpAnyH_ready (rs := [5]) (by kernel_rfl) (by simp) ?_
      refine AllReadyH.cons (by simp only [List.getElem?_toArray, List.getElem?_cons_succ, List.getElem?_cons_zero]; first | done | rfl) (fun K hK => ?_) ?_
      · skip
        refine step_store_up rfl (.tmp 2) (.tmp 39) rfl w.heap.size zeroU rfl rfl zeroU (UA.drewN (RrI.res HI5.out) 1) ?_
        intro v2 hv2
        have HV2 := Lib.hid hv2
        clear hv2
        refine hK.out _ _ ?_ (fun hHeld => ?_)
        · (try dsimp only); (first | exact RRx.c1 (RrI.rdr (RrI.drew HI5.out)) | (rw [HV2.out]; exact RrI.c1 (RrI.drew HI5.out) zeroU))
        clear hK K
        try simp only [Act.put, List.setIfInBounds_toArray, List.set_cons_zero, List.set_cons_succ]
        refine wpAnyH_take (i := 6) (v := ?_) (by simp only [List.getElem?_toArray, List.getElem?_cons_succ, List.getElem?_cons_zero]; first | done | rfl) (by kernel_rfl) (by kernel_rfl) (by kernel_rfl) (fun _ _ _ h => h) (Or.inl ⟨by rfl, ?hy⟩) (by assumption) ?_
        case hy => (intro w hSw; (try dsimp only at hSw); go_simp; all_goals with_reducible rfl)
        try simp only [Act.put, List.setIfInBounds_toArray, List.set_cons_zero, List.set_cons_succ]
        refine wpAnyH_done (by kernel_rfl) ?_ _
        refine NoPanic.normal ?_
        go_wp2_with fail
        rw [HV2.out]
        exact bodyPost_ret (v := .tuple #[upV zeroU, .int .i64 (ust b 5).x]) (results_row_tmp (p := 2) (u := 3) rfl _ _ w.heap.size zeroU.cells.toArray rfl (up_loads ⟨setRow_heap _ _ _ _ _ _ (UA.drewN (RrI.res HI5.out) 1).row⟩)) rfl ⟨by rw [HEE.out], below_setRow (bl_drew HI5.out.bel) (Nat.le_refl _)⟩
      exact AllReadyH.nil
    have hx1 : ((ust b 5).x != 0) = false := by rw [hx]; rfl
    have hrd := HRD.out
    rw [if_pos hx] at hrd
    by_cases hy : 0 < (ust b 5).l.length
    · rw [if_pos hy] at hrd
      have HEE := Lib.hid hrd
      clear hrd
      have hy' : (0 : Int) < ((ust b 5).l.length : Int) := by omega
      go_upto_region 11 with fail
      refine wp_region_lit ?_
      refine wpList_built rfl 30 #[] rfl [] (by simp) zeroU.cells.toArray built_up0 ?_
      refine wpList_store_row rfl 30 (.tmp 2) (.tmp 51) rfl w.heap.size zeroU.cells.toArray rfl rfl 30 _ HI5.out.res.row (up_size _) rfl (all_oneCell_toArray zeroU.cells_one) ?_
      go_wp2_with fail
      exact bodyPost_ret (v := .tuple #[upV zeroU, .int .i64 20]) (results_row_tmp (p := 2) (u := 3) rfl _ _ w.heap.size zeroU.cells.toArray rfl (up_loads ⟨setRow_heap _ _ _ _ _ _ HI5.out.res.row⟩)) rfl ⟨by rw [HEE.out], below_setRow HI5.out.bel (Nat.le_refl _)⟩
    rw [if_neg hy] at hrd
    have hy' : ¬ ((0 : Int) < ((ust b 5).l.length : Int)) := by omega
    have HRD2 := Lib.hid hrd
    clear hrd HRD hy
    go_upto_region 12 with fail
    refine wp_region_lit ?_
    refine wpList_load_row rfl 30 (.tmp 6) rfl g6 rfl 30 _ (0, 0) _ HU5.out.row Try.underlying30 rfl (up_size _) ?_
    go_wp2_with fail
    refine (rrightU_any P _).mono ?_
    rintro e w9 ⟨rfl, hb9⟩
    have HI9 := Lib.hid (HI5.out.below hb9)
    have HU9 := Lib.hid (HU5.out.below hb9)
    clear hb9
    cases hr : rightU P with
    | false =>
      have he : readU b = (zeroU, 23) := by rw [HRD2.out, hr]; rfl
      have HEE := Lib.hid he
      clear he hr
      go_upto_region 13 with fail
      refine wp_region_lit ?_
      refine wpList_built rfl 30 #[] rfl [] (by simp) zeroU.cells.toArray built_up0 ?_
      refine wpList_store_row rfl 30 (.tmp 2) (.tmp 56) rfl w.heap.size zeroU.cells.toArray rfl rfl 30 _ HI9.out.res.row (up_size _) rfl (all_oneCell_toArray zeroU.cells_one) ?_
      go_wp2_with fail
      exact bodyPost_ret (v := .tuple #[upV zeroU, .int .i64 23]) (results_row_tmp (p := 2) (u := 3) rfl _ _ w.heap.size zeroU.cells.toArray rfl (up_loads ⟨setRow_heap _ _ _ _ _ _ HI9.out.res.row⟩)) rfl ⟨by rw [HEE.out], below_setRow HI9.out.bel (Nat.le_refl _)⟩
    | true =>
      have he : readU b = (P, 0) := by rw [HRD2.out, hr]; rfl
      have HEE := Lib.hid he
      clear he hr
      go_upto_region 14 with fail
      refine wp_region_lit ?_
      refine wpList_load_row rfl 30 (.tmp 6) rfl g6 rfl 30 _ (0, 0) _ HU9.out.row Try.underlying30 rfl (up_size _) ?_
      refine wpList_store_row rfl 30 (.tmp 2) (.tmp 57) rfl w.heap.size P.cells.toArray rfl rfl 30 _ HI9.out.res.row (up_size _) rfl (all_oneCell_toArray P.cells_one) ?_
      go_wp2_with fail
      exact bodyPost_ret (v := .tuple #[upV P, .int .i64 0]) (results_row_tmp (p := 2) (u := 3) rfl _ _ w.heap.size P.cells.toArray rfl (up_loads ⟨setRow_heap _ _ _ _ _ _ HI9.out.res.row⟩)) rfl ⟨by rw [HEE.out], below_setRow HI9.out.bel (Nat.le_refl _)⟩
end Go.Proofs.Ytjfkkcoapeipbaa
