/-
  Heads: Read, the program's.
-/
import Derived.Test.YteapoemockimfaaHdB
namespace Go.Proofs.Yteapoemockimfaa
set_option linter.unusedVariables false
set_option linter.unusedSimpArgs false
open Go.RowKit
attribute [local irreducible] checkF msgF num8 zeroH

/-- What Read tells. -/
def GivesRead (w : World) (b : List UInt8) (e : Ending) (w' : World) : Prop := e = .returned (.tuple #[headV (readH b).1, .int .i64 (readH b).2]) ∧ Below w.heap.size w w'

theorem calls_world {P : Program} {f : FuncId} {args : Array Value} {Q : Ending → World → Prop} {w : World} (S : World → Prop) (hS : S w) (h : ∀ W, S W → Calls P f args W Q) : Calls P f args w Q := h w hS
structure ReadI (w cur : World) (b : List UInt8) (g k : Nat) : Prop where
  res : HA w.heap.size zeroH cur
  bel : Below w.heap.size w cur
  rdr : RdrAt cur g (b.drop k) 0
  lt : w.heap.size < g
theorem ReadI.glt {w cur : World} {b : List UInt8} {g k : Nat} (h : ReadI w cur b g k) : g < cur.heap.size := by obtain ⟨u, hg, _⟩ := h.rdr; exact (Array.getElem?_eq_some_iff.1 hg).1
theorem ReadI.read {w cur w' : World} {b : List UInt8} {g k k' : Nat} (h : ReadI w cur b g k) (hr : RdrAt w' g (b.drop k') 0) (hg : cur.grownBy w' (some g)) : ReadI w w' b g k' :=
  ⟨h.res.grown hg (fun e => by have := h.lt; simp at e; omega), below_grown h.bel hg (fun k hk => by have := h.lt; simp at hk; omega), hr, h.lt⟩
theorem ReadI.below {w cur w' : World} {b : List UInt8} {g k : Nat} (h : ReadI w cur b g k) (hb : Below cur.heap.size cur w') : ReadI w w' b g k := ⟨h.res.below hb, bl_bl h.bel hb, h.rdr.below hb, h.lt⟩
theorem below_fresh (w : World) (o : Obj) (cs : Array Value) : Below w.heap.size w ((w.alloc o).setRow w.heap.size cs) := below_setRow (bl_alloc (Below.refl _ _) _) (Nat.le_refl _)
theorem ReadI.setSig {w cur : World} {b : List UInt8} {g k gh : Nat} (h : ReadI w cur b g k) (hgh : g < gh) (u v : Value) : ReadI w ((cur.setCell ⟨gh, 67, none⟩ u).setCell ⟨gh, 68, none⟩ v) b g k := by
  have h1 := h.lt
  refine ⟨⟨by rw [heap_far _ _ _ _ _ (by omega), heap_far _ _ _ _ _ (by omega)]; exact h.res.row⟩, below_set (below_set h.bel _ _ _ (by omega)) _ _ _ (by omega), ?_, h.lt⟩
  obtain ⟨x, hg, hx, ho⟩ := h.rdr
  refine ⟨x, by rw [heap_far _ _ _ _ _ (by omega), heap_far _ _ _ _ _ (by omega)]; exact hg, ?_, ho⟩
  rcases hx with hx | ⟨b', o, c, rfl, hc, hm, hcell⟩
  · exact .inl hx
  · refine .inr ⟨b', o, c, rfl, hc, hm, fun i hi => ?_⟩
    have hb := ho ⟨b', o, none⟩ _ _ rfl
    simp at hb
    rw [← hcell i hi, cell_far _ _ _ _ _ _ (by omega), cell_far _ _ _ _ _ _ (by omega)]

set_option maxRecDepth 100000 in
set_option maxHeartbeats 3200000 in
theorem readh_any (v : Value) (b : List UInt8) (w : World) (hv : Rd w v b) (hl : b.length ≤ 1099511627776) : Calls Try.prog 20 #[v] w (GivesRead w b) := by
  obtain ⟨p, c, rfl⟩ := hv.shape
  have HV := Lib.hid hv
  clear hv
  unfold GivesRead
  by_cases h1 : 512 < b.length
  · have he : readH b = (zeroH, 22) := by have h : headErr b = 22 := (by unfold headErr; rw [if_pos h1]); unfold readH; rw [if_neg (by rw [h]; decide), h]
    rw [he]; clear he
    have h1' : (512 : Int) < (b.length : Int) := by omega
    go_enter Try.func20, Try.ntmps20
    go_upto_region 1 with fail
    rw [zero_cells]
    refine wp_world (fun W => HA w.heap.size zeroH W ∧ Below w.heap.size w W) ⟨HA.new zeroH w, bl_alloc (Below.refl _ _) _⟩ ?_
    rintro W ⟨hA, hB⟩
    have HH := Lib.hid hA
    have HB := Lib.hid hB
    clear hA hB
    go_upto_region 2 with fail
    refine wp_region_lit ?_
    refine wpList_built rfl 28 #[] rfl [] (by simp) zeroH.cells.toArray built_head0 ?_
    refine wpList_store_row rfl 28 (.tmp 2) (.tmp 10) rfl w.heap.size zeroH.cells.toArray rfl rfl 28 _ HH.out.row (head_size _ zeroH_ok) rfl (all_oneCell_toArray zeroH.cells_one) ?_
    go_wp2_with fail
    exact bodyPost_ret (v := .tuple #[headV zeroH, .int .i64 22]) (results_row_tmp (p := 2) (u := 3) rfl _ _ w.heap.size zeroH.cells.toArray rfl (head_loads ⟨setRow_heap _ _ _ _ _ _ HH.out.row⟩ zeroH_ok)) rfl ⟨rfl, below_setRow HB.out (Nat.le_refl _)⟩
  have h1' : ¬ ((512 : Int) < (b.length : Int)) := by omega
  by_cases h2 : b.length < 105
  · have he : readH b = (zeroH, 21) := by have h : headErr b = 21 := (by unfold headErr; rw [if_neg h1, if_pos h2]); unfold readH; rw [if_neg (by rw [h]; decide), h]
    rw [he]; clear he
    have h2' : (b.length : Int) < 105 := by omega
    go_enter Try.func20, Try.ntmps20
    go_upto_region 1 with fail
    rw [zero_cells]
    refine wp_world (fun W => HA w.heap.size zeroH W ∧ Below w.heap.size w W) ⟨HA.new zeroH w, bl_alloc (Below.refl _ _) _⟩ ?_
    rintro W ⟨hA, hB⟩
    have HH := Lib.hid hA
    have HB := Lib.hid hB
    clear hA hB
    go_upto_region 4 with fail
    refine wp_region_lit ?_
    refine wpList_built rfl 28 #[] rfl [] (by simp) zeroH.cells.toArray built_head0 ?_
    refine wpList_store_row rfl 28 (.tmp 2) (.tmp 15) rfl w.heap.size zeroH.cells.toArray rfl rfl 28 _ HH.out.row (head_size _ zeroH_ok) rfl (all_oneCell_toArray zeroH.cells_one) ?_
    go_wp2_with fail
    exact bodyPost_ret (v := .tuple #[headV zeroH, .int .i64 21]) (results_row_tmp (p := 2) (u := 3) rfl _ _ w.heap.size zeroH.cells.toArray rfl (head_loads ⟨setRow_heap _ _ _ _ _ _ HH.out.row⟩ zeroH_ok)) rfl ⟨rfl, below_setRow HB.out (Nat.le_refl _)⟩
  have h2' : ¬ ((b.length : Int) < 105) := by omega
  by_cases h3 : 105 < b.length
  · have he : readH b = (zeroH, 20) := by have h : headErr b = 20 := (by unfold headErr; rw [if_neg h1, if_neg h2, if_pos h3]); unfold readH; rw [if_neg (by rw [h]; decide), h]
    rw [he]; clear he
    have h3' : (105 : Int) < (b.length : Int) := by omega
    go_enter Try.func20, Try.ntmps20
    go_upto_region 1 with fail
    rw [zero_cells]
    refine wp_world (fun W => HA w.heap.size zeroH W ∧ Below w.heap.size w W) ⟨HA.new zeroH w, bl_alloc (Below.refl _ _) _⟩ ?_
    rintro W ⟨hA, hB⟩
    have HH := Lib.hid hA
    have HB := Lib.hid hB
    clear hA hB
    go_upto_region 6 with fail
    refine wp_region_lit ?_
    refine wpList_built rfl 28 #[] rfl [] (by simp) zeroH.cells.toArray built_head0 ?_
    refine wpList_store_row rfl 28 (.tmp 2) (.tmp 26) rfl w.heap.size zeroH.cells.toArray rfl rfl 28 _ HH.out.row (head_size _ zeroH_ok) rfl (all_oneCell_toArray zeroH.cells_one) ?_
    go_wp2_with fail
    exact bodyPost_ret (v := .tuple #[headV zeroH, .int .i64 20]) (results_row_tmp (p := 2) (u := 3) rfl _ _ w.heap.size zeroH.cells.toArray rfl (head_loads ⟨setRow_heap _ _ _ _ _ _ HH.out.row⟩ zeroH_ok)) rfl ⟨rfl, below_setRow HB.out (Nat.le_refl _)⟩
  have h3' : ¬ ((105 : Int) < (b.length : Int)) := by omega
  have hb : b.length = 105 := by omega
  have HE := Lib.hid hb
  obtain ⟨bk, o, c', hpe, hc5, hcell⟩ : ∃ bk o c', (Value.slice p b.length c) = .slice (some ⟨bk, o, none⟩) 105 c' ∧ 105 ≤ c' ∧ ∀ i (h : i < b.length), w.cell? ⟨bk, o + i, none⟩ = some (bv b[i]) := by
    rcases HV.out with ⟨_, rfl⟩ | ⟨bk, o, c', he, hc, hm, hcell⟩
    · simp at hb
    · exact ⟨bk, o, c', by rw [he, hb], by omega, hcell⟩
  have h0 := hcell 0 (by omega)
  rw [Nat.add_zero] at h0
  unfold bv at h0
  rw [hpe] at HV ⊢
  have HC := Lib.hid hcell
  have HV := HV
  clear hcell hpe
  have q0 : (0 : Int) ≤ (b[0].toNat : Int) := by omega
  obtain ⟨x, hx⟩ : ∃ x : Int, x = (b[0].toNat : Int) := ⟨_, rfl⟩
  rw [← hx] at h0 q0
  have HX := Lib.hid hx
  have hhead : headErr b = if x = 72 then 0 else 20 := by
    unfold headErr
    rw [if_neg h1, if_neg h2, if_neg h3, hx]
    obtain ⟨a, t, rfl⟩ : ∃ a t, b = a :: t := by cases b with | nil => simp at hb | cons a t => exact ⟨a, t, rfl⟩
    simp only [List.head?_cons, List.getElem_cons_zero, Option.some.injEq]
    by_cases ha : a = byt 72
    · rw [if_pos ha, if_pos (by rw [ha]; exact byt_nat 72 (by decide) (by decide))]
    · rw [if_neg ha, if_neg (fun e => ha (by rw [← UInt8.toNat_inj]; have h := byt_nat 72 (by decide) (by decide); omega))]
  have HHD := Lib.hid hhead
  clear HX hx hhead hb h1 h2 h3 h1' h2' h3'
  by_cases hx72 : x = 72
  case neg =>
    have he : readH b = (zeroH, 20) := by have h : headErr b = 20 := (by rw [HHD.out, if_neg hx72]); unfold readH; rw [if_neg (by rw [h]; decide), h]
    rw [he]; clear he
    go_enter Try.func20, Try.ntmps20
    go_upto_region 1 with fail
    rw [zero_cells]
    refine wp_world (fun W => HA w.heap.size zeroH W ∧ Below w.heap.size w W) ⟨HA.new zeroH w, bl_alloc (Below.refl _ _) _⟩ ?_
    rintro W ⟨hA, hB⟩
    have HH := Lib.hid hA
    have HB := Lib.hid hB
    have hc0 : W.cell? ⟨bk, o, none⟩ = some (.int .u8 x) := by rw [hB.cell (p := ⟨bk, o, none⟩) (World.block_lt_of_cell? w _ h0)]; exact h0
    clear hA hB
    go_upto_region 6 with fail
    refine wp_region_lit ?_
    refine wpList_built rfl 28 #[] rfl [] (by simp) zeroH.cells.toArray built_head0 ?_
    refine wpList_store_row rfl 28 (.tmp 2) (.tmp 26) rfl w.heap.size zeroH.cells.toArray rfl rfl 28 _ HH.out.row (head_size _ zeroH_ok) rfl (all_oneCell_toArray zeroH.cells_one) ?_
    go_wp2_with fail
    exact bodyPost_ret (v := .tuple #[headV zeroH, .int .i64 20]) (results_row_tmp (p := 2) (u := 3) rfl _ _ w.heap.size zeroH.cells.toArray rfl (head_loads ⟨setRow_heap _ _ _ _ _ _ HH.out.row⟩ zeroH_ok)) rfl ⟨rfl, below_setRow HB.out (Nat.le_refl _)⟩
  have he : headErr b = 0 := by rw [HHD.out, if_pos hx72]
  have HER := Lib.hid he
  clear he
  subst hx72
  go_enter Try.func20, Try.ntmps20
  go_upto_region 1 with fail
  rw [zero_cells]
  refine wp_world (fun W => HA w.heap.size zeroH W ∧ Below w.heap.size w W) ⟨HA.new zeroH w, bl_alloc (Below.refl _ _) _⟩ ?_
  rintro W ⟨hA, hB⟩
  have HH := Lib.hid hA
  have HB := Lib.hid hB
  have hc0 : W.cell? ⟨bk, o, none⟩ = some (.int .u8 72) := by rw [hB.cell (p := ⟨bk, o, none⟩) (World.block_lt_of_cell? w _ h0)]; exact h0
  clear hA hB
  go_wp2_with fail
  have hd1 : Rd W (.slice (some ⟨bk, o + 1, none⟩) 104 (c' - 1)) (b.drop 1) := by
    have h := HV.out
    have h2 : Rd w (.slice (some ⟨bk, o, none⟩) b.length c') b := by rw [HE.out]; exact h
    have h3 := h2.drop 1 (by rw [HE.out]; omega) ⟨bk, o + 1, none⟩ (fun _ => rfl) ⟨_, _, rfl⟩
    rw [HE.out] at h3
    exact h3.below HB.out
  refine (new_any _ (b.drop 1) _ hd1 (by rw [List.length_drop]; omega)).mono ?_
  rintro e w1 ⟨g, rfl, hg, hr, hb⟩
  have HI0 := Lib.hid (show ReadI w w1 b g 1 from ⟨HH.out.below hb, bl_bl HB.out hb, hr, Nat.lt_of_lt_of_le HH.out.lt hg⟩)
  clear hg hr hb hd1 hc0 h0
  go_wp2_with fail
  refine (num_at b g 1 _ HI0.out.rdr (by rw [HE.out]; omega) hl).mono ?_
  rintro e x1 ⟨rfl, hr, hg⟩
  have HI1 := Lib.hid (HI0.out.read hr hg)
  clear hr hg
  go_wp2_with fail
  refine (near_any (num8 b 1) _ (num8_bd b 1).1 (num8_bd b 1).2).mono ?_
  rintro e _ ⟨rfl, rfl⟩
  go_wp2_with fail
  refine (num_at b g 9 _ HI1.out.rdr (by rw [HE.out]; omega) hl).mono ?_
  rintro e x2 ⟨rfl, hr, hg⟩
  have HI2 := Lib.hid (HI1.out.read hr hg)
  clear hr hg
  go_wp2_with fail
  refine (near_any (num8 b 9) _ (num8_bd b 9).1 (num8_bd b 9).2).mono ?_
  rintro e _ ⟨rfl, rfl⟩
  go_wp2_with fail
  refine (num_at b g 17 _ HI2.out.rdr (by rw [HE.out]; omega) hl).mono ?_
  rintro e x3 ⟨rfl, hr, hg⟩
  have HI3 := Lib.hid (HI2.out.read hr hg)
  clear hr hg
  go_wp2_with fail
  refine (near_any (num8 b 17) _ (num8_bd b 17).1 (num8_bd b 17).2).mono ?_
  rintro e _ ⟨rfl, rfl⟩
  go_wp2_with fail
  refine (hash_at b g 25 _ HI3.out.rdr (by rw [HE.out]; omega) hl).mono ?_
  rintro e x4 ⟨rfl, hr, hg⟩
  have HI4 := Lib.hid (HI3.out.read hr hg)
  clear hr hg
  go_wp2_with fail
  refine (hash_at b g 57 _ HI4.out.rdr (by rw [HE.out]; omega) hl).mono ?_
  rintro e x5 ⟨rfl, hr, hg⟩
  have HI5 := Lib.hid (HI4.out.read hr hg)
  clear hr hg
  have hl1 : ((b.drop 25).take 32).length = 32 := by have h := HE.out; rw [List.length_take, List.length_drop, h]; rfl
  have hl2 : ((b.drop 57).take 32).length = 32 := by have h := HE.out; rw [List.length_take, List.length_drop, h]; rfl
  obtain ⟨K, hK⟩ : ∃ K : Hd, K = ⟨nearF (num8 b 1), nearF (num8 b 9), nearF (num8 b 17), (b.drop 25).take 32, (b.drop 57).take 32, 0, 0⟩ := ⟨_, rfl⟩
  have hbuilt := built_head (nearF (num8 b 1)) (nearF (num8 b 9)) (nearF (num8 b 17)) _ _ hl1 hl2
  rw [← hK] at hbuilt
  have ok : K.ok := by rw [hK]; exact ⟨near_ok _ (num8_bd _ _).1 (num8_bd _ _).2, near_ok _ (num8_bd _ _).1 (num8_bd _ _).2, near_ok _ (num8_bd _ _).1 (num8_bd _ _).2, hl1, hl2, ⟨Int.le_refl 0, by show (0 : Int) < _; omega⟩, ⟨Int.le_refl 0, by show (0 : Int) < _; omega⟩⟩
  have OK := Lib.hid ok
  have HK := Lib.hid hK
  have HBT := Lib.hid hbuilt
  clear hbuilt ok hK hl1 hl2
  go_wp2_with (first
    | refine wpList_built rfl 28 #[(0, .tmp 32), (1, .tmp 35), (2, .tmp 38), (3, .tmp 40), (4, .tmp 42)] rfl [(0, .int .i64 (nearF (num8 b 1))), (1, .int .i64 (nearF (num8 b 9))), (2, .int .i64 (nearF (num8 b 17))), (3, hashV ((b.drop 25).take 32)), (4, hashV ((b.drop 57).take 32))] (by simp only [List.map_toArray, List.map_cons, List.map_nil]; rfl) K.cells.toArray HBT.out ?_
    | refine wpList_store_row rfl 28 (.tmp 5) (.tmp 43) rfl x5.heap.size K.cells.toArray rfl rfl 28 _ (heap_alloc_new _ _) (head_size _ OK.out) (by rw [zero_cells, List.size_toArray, List.size_toArray, Hd.cells_length K OK.out, Hd.cells_length zeroH zeroH_ok]) (all_oneCell_toArray K.cells_one) ?_)
  refine calls_world (fun Y => ReadI w Y b g 89 ∧ HA x5.heap.size K Y ∧ g < x5.heap.size) ⟨HI5.out.below (below_fresh _ _ _), ⟨setRow_heap _ _ _ _ _ _ (heap_alloc_new _ _)⟩, HI5.out.glt⟩ ?_
  rintro Y ⟨hI, hG, hlt⟩
  have HI5 := Lib.hid hI
  have HG5 := Lib.hid hG
  have HLT := Lib.hid hlt
  clear hI hG hlt
  refine (num_at b g 89 _ HI5.out.rdr (by rw [HE.out]; omega) hl).mono ?_
  rintro e x6 ⟨rfl, hr, hg⟩
  have HI6 := Lib.hid (HI5.out.read hr hg)
  have HG6 := Lib.hid (HG5.out.grown hg (fun e => by have := HLT.out; simp at e; omega))
  clear hr hg
  go_wp2_with fail
  refine (num_at b g 97 _ HI6.out.rdr (by rw [HE.out]; omega) hl).mono ?_
  rintro e x7 ⟨rfl, hr, hg⟩
  have HI7 := Lib.hid (HI6.out.read hr hg)
  have HG7 := Lib.hid (HG6.out.grown hg (fun e => by have := HLT.out; simp at e; omega))
  clear hr hg
  obtain ⟨r0, r1⟩ := num8_bd b 89
  obtain ⟨s0, s1⟩ := num8_bd b 97
  have c67 := HG7.out.c67 OK.out
  have c68 := HG7.out.c68 OK.out
  have f67 := frozen_of_row _ _ 67 _ _ HG7.out.row
  have f68 := frozen_of_row _ _ 68 _ _ HG7.out.row
  go_upto_region 10 with fail
  refine wp_world (fun Z => ReadI w Z b g 105 ∧ HA x5.heap.size (parseH nearF b) Z) ⟨HI7.out.setSig HLT.out _ _, by have h := HG7.out.setSig OK.out (num8 b 89) (num8 b 97); rw [HK.out] at h; exact h⟩ ?_
  rintro Z ⟨hI, hG⟩
  have HI8 := Lib.hid hI
  have HG8 := Lib.hid hG
  have OKP := Lib.hid (parseH_ok b HE.out)
  clear hI hG c67 c68 f67 f68 r0 r1 s0 s1
  generalize hP : parseH nearF b = P at *
  have hread : readH b = if rightF P then (P, 0) else (zeroH, 23) := by unfold readH; rw [if_pos HER.out, hP]
  have HRD := Lib.hid hread
  clear hP hread
  refine wp_region_lit ?_
  refine wpList_load_row rfl 28 (.tmp 5) rfl x5.heap.size rfl 28 _ (0, 0) _ HG8.out.row Try.underlying28 rfl (head_size _ OKP.out) ?_
  go_wp2_with fail
  refine (right_any P _).mono ?_
  rintro e w9 ⟨rfl, hb9⟩
  have HI9 := Lib.hid (HI8.out.below hb9)
  have HG9 := Lib.hid (HG8.out.below hb9)
  clear hb9
  cases hr : rightF P with
  | false =>
    have he : readH b = (zeroH, 23) := by rw [HRD.out, hr]; rfl
    have HEE := Lib.hid he
    clear he hr
    go_upto_region 11 with fail
    refine wp_region_lit ?_
    refine wpList_built rfl 28 #[] rfl [] (by simp) zeroH.cells.toArray built_head0 ?_
    refine wpList_store_row rfl 28 (.tmp 2) (.tmp 53) rfl w.heap.size zeroH.cells.toArray rfl rfl 28 _ HI9.out.res.row (head_size _ zeroH_ok) rfl (all_oneCell_toArray zeroH.cells_one) ?_
    go_wp2_with fail
    exact bodyPost_ret (v := .tuple #[headV zeroH, .int .i64 23]) (results_row_tmp (p := 2) (u := 3) rfl _ _ w.heap.size zeroH.cells.toArray rfl (head_loads ⟨setRow_heap _ _ _ _ _ _ HI9.out.res.row⟩ zeroH_ok)) rfl ⟨by rw [HEE.out], below_setRow HI9.out.bel (Nat.le_refl _)⟩
  | true =>
    have he : readH b = (P, 0) := by rw [HRD.out, hr]; rfl
    have HEE := Lib.hid he
    clear he hr
    go_upto_region 12 with fail
    refine wp_region_lit ?_
    refine wpList_load_row rfl 28 (.tmp 5) rfl x5.heap.size rfl 28 _ (0, 0) _ HG9.out.row Try.underlying28 rfl (head_size _ OKP.out) ?_
    refine wpList_store_row rfl 28 (.tmp 2) (.tmp 54) rfl w.heap.size P.cells.toArray rfl rfl 28 _ HI9.out.res.row (head_size _ OKP.out) (by rw [List.size_toArray, List.size_toArray, Hd.cells_length P OKP.out, Hd.cells_length zeroH zeroH_ok]) (all_oneCell_toArray P.cells_one) ?_
    go_wp2_with fail
    exact bodyPost_ret (v := .tuple #[headV P, .int .i64 0]) (results_row_tmp (p := 2) (u := 3) rfl _ _ w.heap.size P.cells.toArray rfl (head_loads ⟨setRow_heap _ _ _ _ _ _ HI9.out.res.row⟩ OKP.out)) rfl ⟨by rw [HEE.out], below_setRow HI9.out.bel (Nat.le_refl _)⟩
end Go.Proofs.Yteapoemockimfaa
