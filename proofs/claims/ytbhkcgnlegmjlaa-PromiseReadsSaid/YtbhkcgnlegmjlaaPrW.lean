/-
  Promises: PromiseRead of the reference.
-/
import Derived.Test.YtbhkcgnlegmjlaaPrV
import Derived.Test.YtbhkcgnlegmjlaaPrE
namespace Go.Proofs.Ytbhkcgnlegmjlaa
set_option linter.unusedVariables false
set_option linter.unusedSimpArgs false
open Go.RowKit

/-- What stands while PromiseRead reads: the result's box, the reader. -/
structure RqI (w cur : World) (g : Nat) (z : RS) : Prop where
  res : PA w.heap.size zeroP cur
  bel : Below w.heap.size w cur
  rdr : RRx cur g z.l z.x
  lt : w.heap.size < g
theorem RqI.glt {w cur : World} {g : Nat} {z : RS} (h : RqI w cur g z) : g < cur.heap.size := h.rdr.lt
theorem RqI.read {w cur w' : World} {g : Nat} {z z' : RS} (h : RqI w cur g z) (hr : RRx w' g z'.l z'.x) (hg : cur.grownBy w' (some g)) : RqI w w' g z' :=
  ⟨h.res.grown hg (fun e => by have := h.lt; simp at e; omega), below_grown h.bel hg (fun k hk => by have := h.lt; simp at hk; omega), hr, h.lt⟩
theorem RqI.below {w cur w' : World} {g : Nat} {z : RS} (h : RqI w cur g z) (hb : Below cur.heap.size cur w') : RqI w w' g z := ⟨h.res.below hb, bl_bl h.bel hb, h.rdr.below hb, h.lt⟩
theorem RqI.alloc {w cur : World} {g : Nat} {z : RS} (h : RqI w cur g z) (o : Obj) : RqI w (cur.alloc o) g z := h.below (bl_alloc (Below.refl _ _) o)
theorem RqI.drewN {w cur : World} {g : Nat} {z : RS} (h : RqI w cur g z) (n : Nat) : RqI w (cur.drewN n) g z := h.below (Dr.below (Dr.drewN (Dr.refl _) n) _)
theorem RqI.drew {w cur : World} {g : Nat} {z : RS} (h : RqI w cur g z) : RqI w cur.drew g z := h.drewN 1
theorem RqI.setRow {w cur : World} {g k : Nat} {z : RS} (h : RqI w cur g z) (hk : g < k) (cs : Array Value) : RqI w (cur.setRow k cs) g z := by
  have h1 := h.lt
  exact ⟨⟨by rw [setRow_other _ _ _ _ (by omega)]; exact h.res.row⟩, below_setRow h.bel (by omega), h.rdr.setRow hk cs, h.lt⟩
theorem RqI.setCell {w cur : World} {g k o : Nat} {z : RS} (h : RqI w cur g z) (hk : g < k) (u : Value) : RqI w (cur.setCell ⟨k, o, none⟩ u) g z := by
  have h1 := h.lt
  exact ⟨⟨by rw [heap_far _ _ _ _ _ (by omega)]; exact h.res.row⟩, below_set h.bel _ _ _ (by omega), h.rdr.setCell hk u, h.lt⟩
theorem RqI.c1 {w cur : World} {g : Nat} {z : RS} (h : RqI w cur g z) (u : Pr) : (cur.setRow w.heap.size u.cells.toArray).cell? ⟨g, 1, none⟩ = some (.int .i64 z.x) := by
  have h1 := h.lt
  have h2 := h.rdr.c1
  rw [World.cell?_of_block (setRow_other _ _ _ _ (show g ≠ w.heap.size by omega))]
  exact h2
theorem PA.set3 {g : Nat} {p : Pr} {w : World} (k : PA g p w) (x : Int) : PA g { p with tk := x } (w.setCell ⟨g, 3, none⟩ (.int .i64 x)) := by
  refine ⟨?_⟩
  rw [heap_setCell_same _ _ _ _ _ _ k.row]
  rfl
theorem PA.set4 {g : Nat} {p : Pr} {w : World} (k : PA g p w) (x : Int) : PA g { p with dl := x } (w.setCell ⟨g, 4, none⟩ (.int .i64 x)) := by
  refine ⟨?_⟩
  rw [heap_setCell_same _ _ _ _ _ _ k.row]
  rfl
theorem PA.set5 {g : Nat} {p : Pr} {w : World} (k : PA g p w) (x : Int) : PA g { p with r := x } (w.setCell ⟨g, 5, none⟩ (.int .u64 x)) := by
  refine ⟨?_⟩
  rw [heap_setCell_same _ _ _ _ _ _ k.row]
  rfl
theorem PA.set6 {g : Nat} {p : Pr} {w : World} (k : PA g p w) (x : Int) : PA g { p with s := x } (w.setCell ⟨g, 6, none⟩ (.int .u64 x)) := by
  refine ⟨?_⟩
  rw [heap_setCell_same _ _ _ _ _ _ k.row]
  rfl
theorem built_pr1 (n : List UInt8) (v k : Int) : Try.prog.built 31 [(0, entV n v k)] = some (Pr.mk n v k 0 0 0 0).cells.toArray := by kernel_rfl
attribute [local irreducible] ust lmpOut RS.num rightP nearF intF

set_option maxRecDepth 100000 in
set_option maxHeartbeats 32000000 in
theorem rreadP_any (v : Value) (a : List UInt8) (w : World) (hv : Rd w v a) (hla : a.length ≤ 1099511627776) : Calls Try.prog 10 #[v] w (GivesReadP w a) := by
  obtain ⟨p, c, rfl⟩ := hv.shape
  have HV := Lib.hid hv
  clear hv
  unfold GivesReadP
  by_cases h1 : 512 < a.length
  · have he : readP a = (zeroP, 22) := by unfold readP; rw [if_pos h1]
    rw [he]; clear he
    have h1' : (512 : Int) < (a.length : Int) := by omega
    go_enter Try.func10, Try.ntmps10
    go_upto_region 1 with fail
    rw [pr_zero]
    refine wp_world (fun W => PA w.heap.size zeroP W ∧ Below w.heap.size w W) ⟨PA.new zeroP w, bl_alloc (Below.refl _ _) _⟩ ?_
    rintro W ⟨hA, hB⟩
    have HH := Lib.hid hA
    have HB := Lib.hid hB
    clear hA hB
    go_upto_region 2 with fail
    refine wp_region_lit ?_
    refine wpList_built rfl 31 #[] rfl [] (by simp) zeroP.cells.toArray built_pr0 ?_
    refine wpList_store_row rfl 31 (.tmp 2) (.tmp 10) rfl w.heap.size zeroP.cells.toArray rfl rfl 31 _ HH.out.row (pr_size _) rfl (all_oneCell_toArray zeroP.cells_one) ?_
    go_wp2_with fail
    exact bodyPost_ret (v := .tuple #[prV zeroP, .int .i64 22]) (results_row_tmp (p := 2) (u := 3) rfl _ _ w.heap.size zeroP.cells.toArray rfl (pr_loads ⟨setRow_heap _ _ _ _ _ _ HH.out.row⟩)) rfl ⟨rfl, below_setRow HB.out (Nat.le_refl _)⟩
  have h1' : ¬ ((512 : Int) < (a.length : Int)) := by omega
  by_cases h2 : a.length = 0
  · have he : readP a = (zeroP, 21) := by unfold readP; rw [if_neg h1, if_pos h2]
    rw [he]; clear he
    have h2' : ((a.length : Int) == 0) = true := by rw [h2]; rfl
    go_enter Try.func10, Try.ntmps10
    go_upto_region 1 with fail
    rw [pr_zero]
    refine wp_world (fun W => PA w.heap.size zeroP W ∧ Below w.heap.size w W) ⟨PA.new zeroP w, bl_alloc (Below.refl _ _) _⟩ ?_
    rintro W ⟨hA, hB⟩
    have HH := Lib.hid hA
    have HB := Lib.hid hB
    clear hA hB
    go_upto_region 4 with fail
    refine wp_region_lit ?_
    refine wpList_built rfl 31 #[] rfl [] (by simp) zeroP.cells.toArray built_pr0 ?_
    refine wpList_store_row rfl 31 (.tmp 2) (.tmp 15) rfl w.heap.size zeroP.cells.toArray rfl rfl 31 _ HH.out.row (pr_size _) rfl (all_oneCell_toArray zeroP.cells_one) ?_
    go_wp2_with fail
    exact bodyPost_ret (v := .tuple #[prV zeroP, .int .i64 21]) (results_row_tmp (p := 2) (u := 3) rfl _ _ w.heap.size zeroP.cells.toArray rfl (pr_loads ⟨setRow_heap _ _ _ _ _ _ HH.out.row⟩)) rfl ⟨rfl, below_setRow HB.out (Nat.le_refl _)⟩
  have h2' : ((a.length : Int) == 0) = false := beq_false_of_ne (by omega)
  obtain ⟨x0, b, rfl⟩ : ∃ x0 b, a = x0 :: b := by cases a with | nil => simp at h2 | cons a t => exact ⟨a, t, rfl⟩
  obtain ⟨bk, o, hpe, hcell, hcl⟩ : ∃ bk o, p = some ⟨bk, o, none⟩ ∧ w.cell? ⟨bk, o, none⟩ = some (.int .u8 (x0.toNat : Int)) ∧ (x0 :: b).length ≤ c := by
    rcases HV.out with ⟨h, _⟩ | ⟨bk, o, c', he, hc, hm, hcell⟩
    · simp at h
    · simp at he
      have h0 := hcell 0 (by simp)
      obtain ⟨h3, h4⟩ := he
      exact ⟨bk, o, h3, h0, by rw [h4]; exact hc⟩
  subst hpe
  generalize hN : (x0 :: b).length = N at *
  have hN1 : (1 : Int) ≤ (N : Int) := by omega
  have hN1' : (0 : Int) < (N : Int) := by omega
  by_cases hx : x0 = byt 80
  case neg =>
    have he : readP (x0 :: b) = (zeroP, 20) := by
      unfold readP
      rw [if_neg (by rw [hN]; exact h1), if_neg (by rw [hN]; exact h2), if_neg (show ¬ ((x0 :: b).head? = some (byt 80)) by intro h; simp at h; exact hx h)]
    rw [he]; clear he
    have hb0 : ((x0.toNat : Int) != 80) = true := by
      rw [bne_iff_ne]
      intro h
      apply hx
      rw [← UInt8.toNat_inj]
      have := byt_nat 80 (by omega) (by omega)
      omega
    generalize (x0.toNat : Int) = z at *
    go_enter Try.func10, Try.ntmps10
    go_upto_region 1 with fail
    rw [pr_zero]
    refine wp_world (fun W => PA w.heap.size zeroP W ∧ Below w.heap.size w W) ⟨PA.new zeroP w, bl_alloc (Below.refl _ _) _⟩ ?_
    rintro W ⟨hA, hB⟩
    have HH := Lib.hid hA
    have HB := Lib.hid hB
    have hc0 : W.cell? ⟨bk, o, none⟩ = some (.int .u8 z) := by rw [hB.cell (p := ⟨bk, o, none⟩) (World.block_lt_of_cell? w _ hcell)]; exact hcell
    clear hA hB
    go_upto_region 6 with fail
    refine wp_region_lit ?_
    refine wpList_built rfl 31 #[] rfl [] (by simp) zeroP.cells.toArray built_pr0 ?_
    refine wpList_store_row rfl 31 (.tmp 2) (.tmp 21) rfl w.heap.size zeroP.cells.toArray rfl rfl 31 _ HH.out.row (pr_size _) rfl (all_oneCell_toArray zeroP.cells_one) ?_
    go_wp2_with fail
    exact bodyPost_ret (v := .tuple #[prV zeroP, .int .i64 20]) (results_row_tmp (p := 2) (u := 3) rfl _ _ w.heap.size zeroP.cells.toArray rfl (pr_loads ⟨setRow_heap _ _ _ _ _ _ HH.out.row⟩)) rfl ⟨rfl, below_setRow HB.out (Nat.le_refl _)⟩
  subst hx
  have hz : ((byt 80).toNat : Int) = 80 := byt_nat 80 (by omega) (by omega)
  rw [hz] at hcell
  have hl : b.length ≤ 1099511627776 := by rw [List.length_cons] at hN; omega
  have hrd : readP (byt 80 :: b) = if (ust b 6).x = 0 then (if 0 < (ust b 6).l.length then (zeroP, 20) else if rightP (parseP intF b) then (parseP intF b, 0) else (zeroP, 23)) else (zeroP, (ust b 6).x) := by
    unfold readP
    rw [if_neg (by rw [hN]; exact h1), if_neg (by rw [hN]; exact h2), if_pos (show (byt 80 :: b).head? = some (byt 80) from rfl)]
    show tailP nearF b = _
    rw [← tailP_int]
    rfl
  have HRD := Lib.hid hrd
  clear hrd
  have hdr : Rd w (.slice (some ⟨bk, o + 1, none⟩) (N - 1) (c - 1)) b := by
    have h := HV.out
    rw [← hN] at h
    have h3 := h.drop 1 (by simp) ⟨bk, o + 1, none⟩ (fun _ => rfl) ⟨_, _, rfl⟩
    rw [hN] at h3
    exact h3
  have hNb : N - 1 = b.length := by rw [List.length_cons] at hN; omega
  have HDR := Lib.hid hdr
  have hc1 : (1 : Int) ≤ (c : Int) := by omega
  clear hdr HV
  go_enter Try.func10, Try.ntmps10
  go_upto_region 1 with fail
  rw [pr_zero]
  refine wp_world (fun W => PA w.heap.size zeroP W ∧ Below w.heap.size w W) ⟨PA.new zeroP w, bl_alloc (Below.refl _ _) _⟩ ?_
  rintro W ⟨hA, hB⟩
  have HH := Lib.hid hA
  have HB := Lib.hid hB
  have hc0 : W.cell? ⟨bk, o, none⟩ = some (.int .u8 80) := by rw [hB.cell (p := ⟨bk, o, none⟩) (World.block_lt_of_cell? w _ hcell)]; exact hcell
  clear hA hB
  go_upto_region 7 with fail
  go_cut [4] (fun s4 wx => ∃ g, s4 = .pointer (some ⟨g, 0, none⟩) ∧ RqI w wx g ⟨b, 0⟩)
  case first =>
    have hwl : w.heap.size < W.heap.size := HH.out.lt
    by_cases hc : c = 1
    · subst hc
      have hb0 : b = [] := List.eq_nil_of_length_eq_zero (by omega)
      have hdr : Rd W (.slice (some ⟨bk, o, none⟩) b.length 0) b := by
        subst hb0
        exact .inr ⟨bk, o, 0, rfl, Nat.le_refl _, by decide, fun i hi => by simp at hi⟩
      have HD2 := Lib.hid hdr
      clear hdr hb0
      go_wp2_with fail
      go_meet
      exact ⟨_, rfl, HH.out.alloc _, bl_alloc HB.out _, ⟨_, heap_alloc_new _ _, HD2.out.below (bl_alloc (Below.refl _ _) _), rd_oldif HD2.out (Nat.le_refl _)⟩, hwl⟩
    · have hdr := HDR.out.below HB.out
      rw [hNb] at hdr
      have HD2 := Lib.hid hdr
      clear hdr
      go_wp2_with fail
      go_meet
      exact ⟨_, rfl, HH.out.alloc _, bl_alloc HB.out _, ⟨_, heap_alloc_new _ _, HD2.out.below (bl_alloc (Below.refl _ _) _), rd_oldif HD2.out (Nat.le_refl _)⟩, hwl⟩
  case rest =>
    obtain ⟨g, rfl, hi⟩ := hcut
    have HI := Lib.hid hi
    clear hi HH HB HDR hc0 W
    go_wp2_with fail
    refine (rof_any g b _ HI.out.rdr hl).mono ?_
    rintro e w1 ⟨rfl, hr, hg⟩
    have HI1 := Lib.hid (HI.out.read (z' := ust b 2) hr hg)
    clear hr hg HI
    go_upto_region 9 with (first
      | refine wpList_built rfl 31 #[(0, .tmp 27)] rfl [(0, entV (lmpOut 32 b 0) (intF (ust b 0).num) (ust b 1).num)] (by simp only [List.map_toArray, List.map_cons, List.map_nil]; rfl) (Pr.cells (Pr.mk (lmpOut 32 b 0) (intF (ust b 0).num) (ust b 1).num 0 0 0 0)).toArray (built_pr1 _ _ _) ?_
      | refine wpList_store_row rfl 31 (.tmp 5) (.tmp 28) rfl w1.heap.size (Pr.cells (Pr.mk (lmpOut 32 b 0) (intF (ust b 0).num) (ust b 1).num 0 0 0 0)).toArray rfl rfl 31 _ (heap_alloc_new _ _) (pr_size _) rfl (all_oneCell_toArray (Pr.cells_one _)) ?_)
    refine wp_world (fun Y => PA w1.heap.size (Pr.mk (lmpOut 32 b 0) (intF (ust b 0).num) (ust b 1).num 0 0 0 0) Y ∧ RqI w Y g (ust b 2) ∧ g < w1.heap.size) ⟨⟨setRow_heap _ _ _ _ _ _ (heap_alloc_new _ _)⟩, HI1.out.below (below_fresh _ _ _), HI1.out.glt⟩ ?_
    generalize w1.heap.size = g5
    clear HI1
    rintro Y ⟨hP, hI, hgg⟩
    have HIs0 := Lib.hid hI
    have HPs0 := Lib.hid hP
    have HGG := Lib.hid hgg
    clear hI hP hgg
    (try simp only [Act.put, List.setIfInBounds_toArray, List.set_cons_zero, List.set_cons_succ])
    go_wp2_with fail
    refine (rint_u g b 2 _ HIs0.out.rdr hl).mono ?_
    rintro e x10 ⟨rfl, hr, hg⟩
    have HIs0n := Lib.hid (HIs0.out.read (z' := ust b 3) hr hg)
    have HPs0n := Lib.hid (HPs0.out.grown hg (fun e => by have := HGG.out; simp at e; omega))
    clear hr hg
    have cc := HPs0n.out.c3
    have ff := frozen_of_row _ _ 3 _ _ HPs0n.out.row
    go_upto_region 10 with fail
    refine wp_world (fun Z => RqI w Z g (ust b 3) ∧ PA g5 (Pr.mk (lmpOut 32 b 0) (intF (ust b 0).num) (ust b 1).num (intF (ust b 2).num) 0 0 0) Z) ⟨HIs0n.out.setCell HGG.out _, HPs0n.out.set3 _⟩ ?_
    rintro Z10 ⟨hI, hG⟩
    have HIs10 := Lib.hid hI
    have HPs10 := Lib.hid hG
    clear hI hG cc ff
    go_wp2_with fail
    refine (rint_u g b 3 _ HIs10.out.rdr hl).mono ?_
    rintro e x11 ⟨rfl, hr, hg⟩
    have HIs10n := Lib.hid (HIs10.out.read (z' := ust b 4) hr hg)
    have HPs10n := Lib.hid (HPs10.out.grown hg (fun e => by have := HGG.out; simp at e; omega))
    clear hr hg
    have cc := HPs10n.out.c4
    have ff := frozen_of_row _ _ 4 _ _ HPs10n.out.row
    go_upto_region 11 with fail
    refine wp_world (fun Z => RqI w Z g (ust b 4) ∧ PA g5 (Pr.mk (lmpOut 32 b 0) (intF (ust b 0).num) (ust b 1).num (intF (ust b 2).num) (intF (ust b 3).num) 0 0) Z) ⟨HIs10n.out.setCell HGG.out _, HPs10n.out.set4 _⟩ ?_
    rintro Z11 ⟨hI, hG⟩
    have HIs11 := Lib.hid hI
    have HPs11 := Lib.hid hG
    clear hI hG cc ff
    go_wp2_with fail
    refine (rnum_u g b 4 _ HIs11.out.rdr hl).mono ?_
    rintro e x12 ⟨rfl, hr, hg⟩
    have HIs11n := Lib.hid (HIs11.out.read (z' := ust b 5) hr hg)
    have HPs11n := Lib.hid (HPs11.out.grown hg (fun e => by have := HGG.out; simp at e; omega))
    clear hr hg
    have cc := HPs11n.out.c5
    have ff := frozen_of_row _ _ 5 _ _ HPs11n.out.row
    go_upto_region 12 with fail
    refine wp_world (fun Z => RqI w Z g (ust b 5) ∧ PA g5 (Pr.mk (lmpOut 32 b 0) (intF (ust b 0).num) (ust b 1).num (intF (ust b 2).num) (intF (ust b 3).num) (ust b 4).num 0) Z) ⟨HIs11n.out.setCell HGG.out _, HPs11n.out.set5 _⟩ ?_
    rintro Z12 ⟨hI, hG⟩
    have HIs12 := Lib.hid hI
    have HPs12 := Lib.hid hG
    clear hI hG cc ff
    go_wp2_with fail
    refine (rnum_u g b 5 _ HIs12.out.rdr hl).mono ?_
    rintro e x13 ⟨rfl, hr, hg⟩
    have HIs12n := Lib.hid (HIs12.out.read (z' := ust b 6) hr hg)
    have HPs12n := Lib.hid (HPs12.out.grown hg (fun e => by have := HGG.out; simp at e; omega))
    clear hr hg
    have cc := HPs12n.out.c6
    have ff := frozen_of_row _ _ 6 _ _ HPs12n.out.row
    go_upto_region 13 with fail
    refine wp_world (fun Z => RqI w Z g (ust b 6) ∧ PA g5 (parseP intF b) Z) ⟨HIs12n.out.setCell HGG.out _, HPs12n.out.set6 _⟩ ?_
    rintro Z13 ⟨hI, hG⟩
    have HIs13 := Lib.hid hI
    have HPs13 := Lib.hid hG
    clear hI hG cc ff
    have HI5 := HIs13
    have HP5 := HPs13
    generalize parseP intF b = P at *
    have c1 := HI5.out.rdr.c1
    obtain ⟨a0, d0, c0⟩ := HI5.out.rdr.c0
    by_cases hx : (ust b 6).x = 0
    case neg =>
      have hrd := HRD.out
      rw [if_neg hx] at hrd
      have HEE := Lib.hid hrd
      clear hrd
      have hx1 : ((ust b 6).x != 0) = true := by simpa using hx
      go_upto_region 14 with fail
      refine wp_region_noPanic ?_
      refine wp_region_held_drew (S := (fun w' => w'.cell? ⟨g, 1, none⟩ = some (.int .i64 (ust b 6).x))) (by kernel_rfl) ?_ (fun hHeld => ?_)
      · (try dsimp only); (first | exact RRx.c1 (RqI.rdr (RqI.drew HI5.out)) | (rw [HV2.out]; exact RqI.c1 (RqI.drew HI5.out) zeroP))
      refine wpAnyH_take (i := 0) (by simp only [List.getElem?_toArray, List.getElem?_cons_succ, List.getElem?_cons_zero]; first | done | rfl) (by kernel_rfl) (by kernel_rfl) (by kernel_rfl) (fun _ _ _ h => h) (yields_build_pr0 (by rfl) rfl) (by assumption) ?_
      try simp only [Act.put, List.setIfInBounds_toArray, List.set_cons_zero, List.set_cons_succ]
      refine wpAnyH_take (i := 1) (v := ?_) (by simp only [List.getElem?_toArray, List.getElem?_cons_succ, List.getElem?_cons_zero]; first | done | rfl) (by kernel_rfl) (by kernel_rfl) (by kernel_rfl) (fun _ _ _ h => h) (Or.inl ⟨by rfl, ?hy⟩) (by assumption) ?_
      case hy => (intro w hSw; (try dsimp only at hSw); go_simp; all_goals with_reducible rfl)
      try simp only [Act.put, List.setIfInBounds_toArray, List.set_cons_zero, List.set_cons_succ]
      refine wpAnyH_take (i := 2) (v := ?_) (by simp only [List.getElem?_toArray, List.getElem?_cons_succ, List.getElem?_cons_zero]; first | done | rfl) (by kernel_rfl) (by kernel_rfl) (by kernel_rfl) (fun _ _ _ h => h) (Or.inl ⟨by rfl, ?hy⟩) (by assumption) ?_
      case hy => (intro w hSw; (try dsimp only at hSw); go_simp; all_goals with_reducible rfl)
      try simp only [Act.put, List.setIfInBounds_toArray, List.set_cons_zero, List.set_cons_succ]
      refine wpAnyH_take (i := 3) (v := ?_) (by simp only [List.getElem?_toArray, List.getElem?_cons_succ, List.getElem?_cons_zero]; first | done | rfl) (by kernel_rfl) (by kernel_rfl) (by kernel_rfl) (fun _ _ _ h => h) (Or.inl ⟨by rfl, ?hy⟩) (by assumption) ?_
      case hy => (intro w hSw; (try dsimp only at hSw); go_simp; all_goals with_reducible rfl)
      try simp only [Act.put, List.setIfInBounds_toArray, List.set_cons_zero, List.set_cons_succ]
      refine wpAnyH_take (i := 4) (v := ?_) (by simp only [List.getElem?_toArray, List.getElem?_cons_succ, List.getElem?_cons_zero]; first | done | rfl) (by kernel_rfl) (by kernel_rfl) (by kernel_rfl) (fun _ _ _ h => h) (Or.inl ⟨by rfl, ?hy⟩) (by assumption) ?_
      case hy => (intro w hSw; (try dsimp only at hSw); go_simp; all_goals with_reducible rfl)
      try simp only [Act.put, List.setIfInBounds_toArray, List.set_cons_zero, List.set_cons_succ]
      refine wpAnyH_ready (rs := [5]) (by kernel_rfl) (by simp) ?_
      refine AllReadyH.cons (by simp only [List.getElem?_toArray, List.getElem?_cons_succ, List.getElem?_cons_zero]; first | done | rfl) (fun K hK => ?_) ?_
      · skip
        refine step_store_pr rfl (.tmp 2) (.tmp 49) rfl w.heap.size zeroP rfl rfl zeroP (PA.drewN (RqI.res HI5.out) 1) ?_
        intro v2 hv2
        have HV2 := Lib.hid hv2
        clear hv2
        refine hK.out _ _ ?_ (fun hHeld => ?_)
        · (try dsimp only); (first | exact RRx.c1 (RqI.rdr (RqI.drew HI5.out)) | (rw [HV2.out]; exact RqI.c1 (RqI.drew HI5.out) zeroP))
        clear hK K
        try simp only [Act.put, List.setIfInBounds_toArray, List.set_cons_zero, List.set_cons_succ]
        refine wpAnyH_take (i := 6) (v := ?_) (by simp only [List.getElem?_toArray, List.getElem?_cons_succ, List.getElem?_cons_zero]; first | done | rfl) (by kernel_rfl) (by kernel_rfl) (by kernel_rfl) (fun _ _ _ h => h) (Or.inl ⟨by rfl, ?hy⟩) (by assumption) ?_
        case hy => (intro w hSw; (try dsimp only at hSw); go_simp; all_goals with_reducible rfl)
        try simp only [Act.put, List.setIfInBounds_toArray, List.set_cons_zero, List.set_cons_succ]
        refine wpAnyH_done (by kernel_rfl) ?_ _
        refine NoPanic.normal ?_
        go_wp2_with fail
        rw [HV2.out]
        exact bodyPost_ret (v := .tuple #[prV zeroP, .int .i64 (ust b 6).x]) (results_row_tmp (p := 2) (u := 3) rfl _ _ w.heap.size zeroP.cells.toArray rfl (pr_loads ⟨setRow_heap _ _ _ _ _ _ (PA.drewN (RqI.res HI5.out) 1).row⟩)) rfl ⟨by rw [HEE.out], below_setRow (bl_drew HI5.out.bel) (Nat.le_refl _)⟩
      exact AllReadyH.nil
    have hx1 : ((ust b 6).x != 0) = false := by rw [hx]; rfl
    have hrd := HRD.out
    rw [if_pos hx] at hrd
    by_cases hy : 0 < (ust b 6).l.length
    · rw [if_pos hy] at hrd
      have HEE := Lib.hid hrd
      clear hrd
      have hy' : (0 : Int) < ((ust b 6).l.length : Int) := by omega
      go_upto_region 16 with fail
      refine wp_region_lit ?_
      refine wpList_built rfl 31 #[] rfl [] (by simp) zeroP.cells.toArray built_pr0 ?_
      refine wpList_store_row rfl 31 (.tmp 2) (.tmp 61) rfl w.heap.size zeroP.cells.toArray rfl rfl 31 _ HI5.out.res.row (pr_size _) rfl (all_oneCell_toArray zeroP.cells_one) ?_
      go_wp2_with fail
      exact bodyPost_ret (v := .tuple #[prV zeroP, .int .i64 20]) (results_row_tmp (p := 2) (u := 3) rfl _ _ w.heap.size zeroP.cells.toArray rfl (pr_loads ⟨setRow_heap _ _ _ _ _ _ HI5.out.res.row⟩)) rfl ⟨by rw [HEE.out], below_setRow HI5.out.bel (Nat.le_refl _)⟩
    rw [if_neg hy] at hrd
    have hy' : ¬ ((0 : Int) < ((ust b 6).l.length : Int)) := by omega
    have HRD2 := Lib.hid hrd
    clear hrd HRD hy
    go_upto_region 17 with fail
    refine wp_region_lit ?_
    refine wpList_load_row rfl 31 (.tmp 5) rfl g5 rfl 31 _ (0, 0) _ HP5.out.row Try.underlying31 rfl (pr_size _) ?_
    go_wp2_with fail
    refine (rrightP_any P _).mono ?_
    rintro e w9 ⟨rfl, hb9⟩
    have HI9 := Lib.hid (HI5.out.below hb9)
    have HP9 := Lib.hid (HP5.out.below hb9)
    clear hb9
    cases hr : rightP P with
    | false =>
      have he : readP (byt 80 :: b) = (zeroP, 23) := by rw [HRD2.out, hr]; rfl
      have HEE := Lib.hid he
      clear he hr
      go_upto_region 18 with fail
      refine wp_region_lit ?_
      refine wpList_built rfl 31 #[] rfl [] (by simp) zeroP.cells.toArray built_pr0 ?_
      refine wpList_store_row rfl 31 (.tmp 2) (.tmp 66) rfl w.heap.size zeroP.cells.toArray rfl rfl 31 _ HI9.out.res.row (pr_size _) rfl (all_oneCell_toArray zeroP.cells_one) ?_
      go_wp2_with fail
      exact bodyPost_ret (v := .tuple #[prV zeroP, .int .i64 23]) (results_row_tmp (p := 2) (u := 3) rfl _ _ w.heap.size zeroP.cells.toArray rfl (pr_loads ⟨setRow_heap _ _ _ _ _ _ HI9.out.res.row⟩)) rfl ⟨by rw [HEE.out], below_setRow HI9.out.bel (Nat.le_refl _)⟩
    | true =>
      have he : readP (byt 80 :: b) = (P, 0) := by rw [HRD2.out, hr]; rfl
      have HEE := Lib.hid he
      clear he hr
      go_upto_region 19 with fail
      refine wp_region_lit ?_
      refine wpList_load_row rfl 31 (.tmp 5) rfl g5 rfl 31 _ (0, 0) _ HP9.out.row Try.underlying31 rfl (pr_size _) ?_
      refine wpList_store_row rfl 31 (.tmp 2) (.tmp 67) rfl w.heap.size P.cells.toArray rfl rfl 31 _ HI9.out.res.row (pr_size _) rfl (all_oneCell_toArray P.cells_one) ?_
      go_wp2_with fail
      exact bodyPost_ret (v := .tuple #[prV P, .int .i64 0]) (results_row_tmp (p := 2) (u := 3) rfl _ _ w.heap.size P.cells.toArray rfl (pr_loads ⟨setRow_heap _ _ _ _ _ _ HI9.out.res.row⟩)) rfl ⟨by rw [HEE.out], below_setRow HI9.out.bel (Nat.le_refl _)⟩
end Go.Proofs.Ytbhkcgnlegmjlaa
