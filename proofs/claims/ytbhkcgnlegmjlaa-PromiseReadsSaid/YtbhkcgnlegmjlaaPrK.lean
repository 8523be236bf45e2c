/-
  Promises: Make, the program's.
-/
import Derived.Test.YtbhkcgnlegmjlaaPrM
namespace Go.Proofs.Ytbhkcgnlegmjlaa
set_option linter.unusedVariables false
set_option linter.unusedSimpArgs false
open Go.RowKit

theorem PA.setSig {g : Nat} {p : Pr} {w : World} (k : PA g p w) (r s : Int) : PA g { p with r := r, s := s } ((w.setCell ⟨g, 5, none⟩ (.int .u64 r)).setCell ⟨g, 6, none⟩ (.int .u64 s)) := by
  refine ⟨?_⟩
  rw [heap_setCell_same _ _ _ _ _ _ (heap_setCell_same _ _ _ _ _ _ k.row)]
  rfl
theorem PA.setOther {g k o : Nat} {p : Pr} {w : World} (h : PA g p w) (hk : k ≠ g) (x : Value) : PA g p (w.setCell ⟨k, o, none⟩ x) := ⟨by rw [heap_far _ _ _ _ _ hk]; exact h.row⟩
theorem PA.setRowOther {g k : Nat} {p : Pr} {w : World} (h : PA g p w) (hk : k ≠ g) (cs : Array Value) : PA g p (w.setRow k cs) := ⟨by rw [setRow_other _ _ _ _ (fun e => hk e.symm)]; exact h.row⟩
theorem built_pr3 (n : List UInt8) (v k t d : Int) : Try.prog.built 31 [(0, entV n v k), (1, .int .i64 t), (2, .int .i64 d)] = some (Pr.mk n v k t d 0 0).cells.toArray := by kernel_rfl
theorem make_err {x : Int} {n : List UInt8} {v k t e : Int} (h : makeErr n v k t = e) (he : e ≠ 0) : makeP x n v k t = zeroP := by unfold makeP; rw [if_neg (by rw [h]; exact he)]
theorem make_ok {x : Int} {n : List UInt8} {v k t : Int} (h : makeErr n v k t = 0) : makeP x n v k t = signP x (freshP n v k t) := by unfold makeP; rw [if_pos h]
theorem signV_val' (x : Int) (m : List UInt8) : signV x m = .agg #[.int .u64 (sigR (x % 2305843009213693950) m), .int .u64 (sigS (x % 2305843009213693950) m)] := rfl
attribute [local irreducible] checkF putF sigR sigS msgP

set_option maxRecDepth 100000 in
set_option maxHeartbeats 32000000 in
theorem makeP_any (x : Int) (n : List UInt8) (v k t : Int) (w : World) (x0 : 0 ≤ x) (x1 : x < 18446744073709551616) (hn : n.length ≤ 1048576) (hv : isI64 v) (hk : isU64 k) (ht : isI64 t) :
    Calls Try.prog 11 #[.int .u64 x, entV n v k, .int .i64 t] w fun e w' => e = .returned (.tuple #[prV (makeP x n v k t), .int .i64 (makeErr n v k t)]) ∧ Below w.heap.size w w' := by
  show Calls _ _ #[.int .u64 x, .agg (entCells n v k).toArray, .int .i64 t] w _
  obtain ⟨t0, t1⟩ := ht
  cases hr : rightE n v k with
  | false =>
    have he : makeErr n v k t = 23 := by unfold makeErr; rw [hr]; rfl
    rw [make_err he (by decide), he]
    have HR := Lib.hid hr
    clear hr he
    go_enter Try.func11, Try.ntmps11
    go_upto_region 1 with fail
    rw [pr_zero]
    refine wp_world (fun W => EA w.heap.size n v k W ∧ PA (w.heap.size + 1) zeroP W ∧ Below w.heap.size w W) ⟨(EA.new n v k w).alloc _, by rw [show w.heap.size + 1 = (w.alloc (.cells (entCells n v k).toArray 27)).heap.size by simp]; exact PA.new zeroP _, bl_alloc (bl_alloc (Below.refl _ _) _) _⟩ ?_
    rintro W ⟨hE, hA, hB⟩
    have HE := Lib.hid hE
    have HA := Lib.hid hA
    have HB := Lib.hid hB
    clear hE hA hB
    go_wp2_with (refine wpList_load_row rfl 27 (.tmp 4) rfl w.heap.size rfl 27 _ (0, 0) _ HE.out.row Try.underlying27 rfl (ent_size _ _ _) ?_)
    refine (pentry_any n v k _).mono ?_
    rintro e w1 ⟨rfl, hb⟩
    rw [HR.out]
    have HE1 := Lib.hid (HE.out.below hb)
    have HA1 := Lib.hid (HA.out.below hb)
    have HB1 := Lib.hid (bl_bl HB.out hb)
    clear hb HE HA HB
    go_upto_region 2 with fail
    refine wp_region_lit ?_
    refine wpList_built rfl 31 #[] rfl [] (by simp) zeroP.cells.toArray built_pr0 ?_
    refine wpList_store_row rfl 31 (.tmp 6) (.tmp 21) rfl (w.heap.size + 1) zeroP.cells.toArray rfl rfl 31 _ HA1.out.row (pr_size _) rfl (all_oneCell_toArray zeroP.cells_one) ?_
    go_wp2_with fail
    exact bodyPost_ret (v := .tuple #[prV zeroP, .int .i64 23]) (results_row_tmp (p := 6) (u := 7) rfl _ _ (w.heap.size + 1) zeroP.cells.toArray rfl (pr_loads ⟨setRow_heap _ _ _ _ _ _ HA1.out.row⟩)) rfl ⟨rfl, below_setRow HB1.out (by omega)⟩
  | true =>
    have HR := Lib.hid hr
    by_cases h0 : t < 0
    · have he : makeErr n v k t = 23 := by unfold makeErr; rw [hr, decide_eq_true h0]; rfl
      rw [make_err he (by decide), he]
      have h0' : decide (t < 0) = true := decide_eq_true h0
      clear hr he
      go_enter Try.func11, Try.ntmps11
      go_upto_region 1 with fail
      rw [pr_zero]
      refine wp_world (fun W => EA w.heap.size n v k W ∧ PA (w.heap.size + 1) zeroP W ∧ Below w.heap.size w W) ⟨(EA.new n v k w).alloc _, by rw [show w.heap.size + 1 = (w.alloc (.cells (entCells n v k).toArray 27)).heap.size by simp]; exact PA.new zeroP _, bl_alloc (bl_alloc (Below.refl _ _) _) _⟩ ?_
      rintro W ⟨hE, hA, hB⟩
      have HE := Lib.hid hE
      have HA := Lib.hid hA
      have HB := Lib.hid hB
      clear hE hA hB
      go_wp2_with (refine wpList_load_row rfl 27 (.tmp 4) rfl w.heap.size rfl 27 _ (0, 0) _ HE.out.row Try.underlying27 rfl (ent_size _ _ _) ?_)
      refine (pentry_any n v k _).mono ?_
      rintro e w1 ⟨rfl, hb⟩
      rw [HR.out]
      have HE1 := Lib.hid (HE.out.below hb)
      have HA1 := Lib.hid (HA.out.below hb)
      have HB1 := Lib.hid (bl_bl HB.out hb)
      clear hb HE HA HB
      go_upto_region 2 with fail
      refine wp_region_lit ?_
      refine wpList_built rfl 31 #[] rfl [] (by simp) zeroP.cells.toArray built_pr0 ?_
      refine wpList_store_row rfl 31 (.tmp 6) (.tmp 21) rfl (w.heap.size + 1) zeroP.cells.toArray rfl rfl 31 _ HA1.out.row (pr_size _) rfl (all_oneCell_toArray zeroP.cells_one) ?_
      go_wp2_with fail
      exact bodyPost_ret (v := .tuple #[prV zeroP, .int .i64 23]) (results_row_tmp (p := 6) (u := 7) rfl _ _ (w.heap.size + 1) zeroP.cells.toArray rfl (pr_loads ⟨setRow_heap _ _ _ _ _ _ HA1.out.row⟩)) rfl ⟨rfl, below_setRow HB1.out (by omega)⟩
    have h0' : decide (t < 0) = false := decide_eq_false h0
    by_cases h1 : 1152921504606846976 < t
    · have he : makeErr n v k t = 23 := by unfold makeErr; rw [hr, h0', decide_eq_true h1]; rfl
      rw [make_err he (by decide), he]
      have h1' : decide (1152921504606846976 < t) = true := decide_eq_true h1
      clear hr he
      go_enter Try.func11, Try.ntmps11
      go_upto_region 1 with fail
      rw [pr_zero]
      refine wp_world (fun W => EA w.heap.size n v k W ∧ PA (w.heap.size + 1) zeroP W ∧ Below w.heap.size w W) ⟨(EA.new n v k w).alloc _, by rw [show w.heap.size + 1 = (w.alloc (.cells (entCells n v k).toArray 27)).heap.size by simp]; exact PA.new zeroP _, bl_alloc (bl_alloc (Below.refl _ _) _) _⟩ ?_
      rintro W ⟨hE, hA, hB⟩
      have HE := Lib.hid hE
      have HA := Lib.hid hA
      have HB := Lib.hid hB
      clear hE hA hB
      go_wp2_with (refine wpList_load_row rfl 27 (.tmp 4) rfl w.heap.size rfl 27 _ (0, 0) _ HE.out.row Try.underlying27 rfl (ent_size _ _ _) ?_)
      refine (pentry_any n v k _).mono ?_
      rintro e w1 ⟨rfl, hb⟩
      rw [HR.out]
      have HE1 := Lib.hid (HE.out.below hb)
      have HA1 := Lib.hid (HA.out.below hb)
      have HB1 := Lib.hid (bl_bl HB.out hb)
      clear hb HE HA HB
      go_upto_region 2 with fail
      refine wp_region_lit ?_
      refine wpList_built rfl 31 #[] rfl [] (by simp) zeroP.cells.toArray built_pr0 ?_
      refine wpList_store_row rfl 31 (.tmp 6) (.tmp 21) rfl (w.heap.size + 1) zeroP.cells.toArray rfl rfl 31 _ HA1.out.row (pr_size _) rfl (all_oneCell_toArray zeroP.cells_one) ?_
      go_wp2_with fail
      exact bodyPost_ret (v := .tuple #[prV zeroP, .int .i64 23]) (results_row_tmp (p := 6) (u := 7) rfl _ _ (w.heap.size + 1) zeroP.cells.toArray rfl (pr_loads ⟨setRow_heap _ _ _ _ _ _ HA1.out.row⟩)) rfl ⟨rfl, below_setRow HB1.out (by omega)⟩
    have h1' : decide (1152921504606846976 < t) = false := decide_eq_false h1
    by_cases h2 : 1152921504606846936 < t
    · have he : makeErr n v k t = 31 := by unfold makeErr; rw [hr, h0', h1', if_pos h2]; rfl
      rw [make_err he (by decide), he]
      have h2' : decide (1152921504606846936 < t) = true := decide_eq_true h2
      clear hr he
      go_enter Try.func11, Try.ntmps11
      go_upto_region 1 with fail
      rw [pr_zero]
      refine wp_world (fun W => EA w.heap.size n v k W ∧ PA (w.heap.size + 1) zeroP W ∧ Below w.heap.size w W) ⟨(EA.new n v k w).alloc _, by rw [show w.heap.size + 1 = (w.alloc (.cells (entCells n v k).toArray 27)).heap.size by simp]; exact PA.new zeroP _, bl_alloc (bl_alloc (Below.refl _ _) _) _⟩ ?_
      rintro W ⟨hE, hA, hB⟩
      have HE := Lib.hid hE
      have HA := Lib.hid hA
      have HB := Lib.hid hB
      clear hE hA hB
      go_wp2_with (refine wpList_load_row rfl 27 (.tmp 4) rfl w.heap.size rfl 27 _ (0, 0) _ HE.out.row Try.underlying27 rfl (ent_size _ _ _) ?_)
      refine (pentry_any n v k _).mono ?_
      rintro e w1 ⟨rfl, hb⟩
      rw [HR.out]
      have HE1 := Lib.hid (HE.out.below hb)
      have HA1 := Lib.hid (HA.out.below hb)
      have HB1 := Lib.hid (bl_bl HB.out hb)
      clear hb HE HA HB
      go_upto_region 4 with fail
      refine wp_region_lit ?_
      refine wpList_built rfl 31 #[] rfl [] (by simp) zeroP.cells.toArray built_pr0 ?_
      refine wpList_store_row rfl 31 (.tmp 6) (.tmp 25) rfl (w.heap.size + 1) zeroP.cells.toArray rfl rfl 31 _ HA1.out.row (pr_size _) rfl (all_oneCell_toArray zeroP.cells_one) ?_
      go_wp2_with fail
      exact bodyPost_ret (v := .tuple #[prV zeroP, .int .i64 31]) (results_row_tmp (p := 6) (u := 7) rfl _ _ (w.heap.size + 1) zeroP.cells.toArray rfl (pr_loads ⟨setRow_heap _ _ _ _ _ _ HA1.out.row⟩)) rfl ⟨rfl, below_setRow HB1.out (by omega)⟩
    have he : makeErr n v k t = 0 := by unfold makeErr; rw [hr, h0', h1', if_neg h2]; rfl
    rw [make_ok he, he]
    have h2' : decide (1152921504606846936 < t) = false := decide_eq_false h2
    have hwt : IntKind.i64.wrap (t + 40) = t + 40 := by rw [IntKind.wrap_i64]; omega
    have ok : (freshP n v k t).ok := ⟨hn, hv, hk, ⟨by show _ ≤ t; omega, by show t < _; omega⟩, ⟨by show _ ≤ t + 40; omega, by show t + 40 < _; omega⟩, ⟨by show (0 : Int) ≤ 0; omega, by show (0 : Int) < _; omega⟩, ⟨by show (0 : Int) ≤ 0; omega, by show (0 : Int) < _; omega⟩⟩
    have OK := Lib.hid ok
    have hS := signV_val' x (msgP (freshP n v k t))
    have hsg : signP x (freshP n v k t) = { freshP n v k t with r := sigR (x % 2305843009213693950) (msgP (freshP n v k t)), s := sigS (x % 2305843009213693950) (msgP (freshP n v k t)) } := rfl
    generalize sigR (x % 2305843009213693950) (msgP (freshP n v k t)) = r at *
    generalize sigS (x % 2305843009213693950) (msgP (freshP n v k t)) = s at *
    have HS1 := Lib.hid hS
    have HSG := Lib.hid hsg
    clear hr he ok hS hsg
    go_enter Try.func11, Try.ntmps11
    go_upto_region 1 with fail
    rw [pr_zero]
    refine wp_world (fun W => EA w.heap.size n v k W ∧ PA (w.heap.size + 1) zeroP W ∧ Below w.heap.size w W) ⟨(EA.new n v k w).alloc _, by rw [show w.heap.size + 1 = (w.alloc (.cells (entCells n v k).toArray 27)).heap.size by simp]; exact PA.new zeroP _, bl_alloc (bl_alloc (Below.refl _ _) _) _⟩ ?_
    rintro W ⟨hE, hA, hB⟩
    have HE := Lib.hid hE
    have HA := Lib.hid hA
    have HB := Lib.hid hB
    clear hE hA hB
    go_wp2_with (refine wpList_load_row rfl 27 (.tmp 4) rfl w.heap.size rfl 27 _ (0, 0) _ HE.out.row Try.underlying27 rfl (ent_size _ _ _) ?_)
    refine (pentry_any n v k _).mono ?_
    rintro e w1 ⟨rfl, hb⟩
    rw [HR.out]
    have HE1 := Lib.hid (HE.out.below hb)
    have HA1 := Lib.hid (HA.out.below hb)
    have HB1 := Lib.hid (bl_bl HB.out hb)
    clear hb HE HA HB
    go_upto_region 6 with (first
      | refine wpList_load_row rfl 27 (.tmp 4) rfl w.heap.size rfl 27 _ (0, 0) _ HE1.out.row Try.underlying27 rfl (ent_size _ _ _) ?_
      | refine wpList_built rfl 31 #[(0, .tmp 26), (1, .tmp 27), (2, .tmp 29)] rfl [(0, entV n v k), (1, .int .i64 t), (2, .int .i64 (t + 40))] (by simp only [List.map_toArray, List.map_cons, List.map_nil]; rfl) (freshP n v k t).cells.toArray (built_pr3 _ _ _ _ _) ?_
      | refine wpList_store_row rfl 31 (.tmp 8) (.tmp 30) rfl w1.heap.size (freshP n v k t).cells.toArray rfl rfl 31 _ (heap_alloc_new _ _) (pr_size _) rfl (all_oneCell_toArray (Pr.cells_one _)) ?_)
    refine wp_world (fun Y => PA (w.heap.size + 1) zeroP Y ∧ PA w1.heap.size (freshP n v k t) Y ∧ Below w.heap.size w Y ∧ w.heap.size + 1 < w1.heap.size) ⟨HA1.out.below (below_fresh _ _ _), ⟨setRow_heap _ _ _ _ _ _ (heap_alloc_new _ _)⟩, bl_bl HB1.out (below_fresh _ _ _), HA1.out.lt⟩ ?_
    generalize w1.heap.size = g8
    clear HE1 HA1 HB1 w1 W
    rintro W ⟨hA, hP, hB, hlt⟩
    have HA1 := Lib.hid hA
    have HP1 := Lib.hid hP
    have HB1 := Lib.hid hB
    have HLT := Lib.hid hlt
    clear hA hP hB hlt
    generalize hq : freshP n v k t = q at *
    have HQ := Lib.hid hq
    clear hq
    (try simp only [Act.put, List.setIfInBounds_toArray, List.set_cons_zero, List.set_cons_succ])
    go_wp2_with (refine wpList_load_row rfl 31 (.tmp 8) rfl g8 rfl 31 _ (0, 0) _ HP1.out.row Try.underlying31 rfl (pr_size _) ?_)
    refine (msgP_any q _ OK.out).mono ?_
    rintro e w2 ⟨u2, rfl, hu, hb⟩
    obtain ⟨a2, d2, rfl⟩ := hu.rd.shape
    have HU := Lib.hid hu.rd
    have HA2 := Lib.hid (HA1.out.below hb)
    have HP2 := Lib.hid (HP1.out.below hb)
    have HB2 := Lib.hid (bl_bl HB1.out hb)
    clear hu hb HA1 HP1 HB1
    go_wp2_with fail
    refine (sign_any x _ (msgP q) _ x0 x1 HU.out (by have := OK.out.nm; rw [msgP_length]; omega)).mono ?_
    rintro e w3 ⟨rfl, hb⟩
    rw [HS1.out]
    have HA3 := Lib.hid (HA2.out.below hb)
    have HP3 := Lib.hid (HP2.out.below hb)
    have HB3 := Lib.hid (bl_bl HB2.out hb)
    clear hb HA2 HP2 HB2
    have c5 := HP3.out.c5
    have c6 := HP3.out.c6
    have f5 := frozen_of_row _ _ 5 _ _ HP3.out.row
    have f6 := frozen_of_row _ _ 6 _ _ HP3.out.row
    go_upto_region 7 with fail
    refine wp_world (fun Y => PA (w.heap.size + 1) zeroP Y ∧ PA g8 { q with r := r, s := s } Y ∧ Below w.heap.size w Y) ⟨(HA3.out.setOther (by have := HLT.out; omega) _).setOther (by have := HLT.out; omega) _, HP3.out.setSig r s, below_set (below_set HB3.out _ _ _ (by have := HLT.out; omega)) _ _ _ (by have := HLT.out; omega)⟩ ?_
    clear HA3 HP3 HB3 c5 c6 f5 f6
    rintro Y ⟨hA, hP, hB⟩
    have HA4 := Lib.hid hA
    have HP4 := Lib.hid hP
    have HB4 := Lib.hid hB
    clear hA hP hB
    generalize hV : ({ q with r := r, s := s } : Pr) = V at *
    have HVV := Lib.hid hV
    clear hV
    refine wp_region_lit ?_
    refine wpList_load_row rfl 31 (.tmp 8) rfl g8 rfl 31 _ (0, 0) _ HP4.out.row Try.underlying31 rfl (pr_size _) ?_
    refine wpList_store_row rfl 31 (.tmp 6) (.tmp 36) rfl (w.heap.size + 1) V.cells.toArray rfl rfl 31 _ HA4.out.row (pr_size _) rfl (all_oneCell_toArray V.cells_one) ?_
    go_wp2_with fail
    exact bodyPost_ret (v := .tuple #[prV V, .int .i64 0]) (results_row_tmp (p := 6) (u := 7) rfl _ _ (w.heap.size + 1) V.cells.toArray rfl (pr_loads ⟨setRow_heap _ _ _ _ _ _ HA4.out.row⟩)) rfl ⟨by rw [HQ.out, HSG.out], below_setRow HB4.out (by omega)⟩
end Go.Proofs.Ytbhkcgnlegmjlaa
