/-
  Heads: near and hash, with which the program reads.
-/
import Derived.Test.YteapoemockimfaaHdP
namespace Go.Proofs.Yteapoemockimfaa
set_option linter.unusedVariables false
set_option linter.unusedSimpArgs false
open Go.RowKit

theorem near_any (n : Int) (w : World) (n0 : 0 ≤ n) (n1 : n < 18446744073709551616) : Calls Try.prog 37 #[.int .u64 n] w fun e w' => e = .returned (.int .i64 (nearF n)) ∧ w = w' := by
  unfold nearF
  by_cases h : 1152921504606846976 < n
  · rw [if_pos h]
    go_enter Try.func37, Try.ntmps37
    go_wp2_with fail
    go_ret
    exact ⟨rfl, rfl⟩
  · rw [if_neg h]
    go_enter Try.func37, Try.ntmps37
    go_wp2_with fail
    go_ret
    exact ⟨rfl, rfl⟩
theorem grown_setRow (w : World) (g : Nat) (cs : Array Value) : w.grownBy (w.setRow g cs) (some g) :=
  ⟨rfl, rfl, rfl, by simp [World.setRow], fun k hk hne => setRow_other _ _ _ _ (fun e => hne (by rw [e]))⟩
theorem grown_other {w wr : World} {row : Option Nat} (h : w.grownBy wr row) {k : Nat} (hk : w.heap.size ≤ k) (cs : Array Value) : w.grownBy (wr.setRow k cs) row := by
  have hg := grown_setRow wr k cs
  exact ⟨hg.os.trans h.os, hg.tape.trans h.tape, hg.output.trans h.output, Nat.le_trans h.size hg.size, fun i hi hne => (hg.block i (Nat.lt_of_lt_of_le hi h.size) (fun e => by simp at e; omega)).trans (h.block i hi hne)⟩
theorem rd_far {w : World} {v : Value} {l : List UInt8} {g k : Nat} (h : Rd w v l) (ho : OldThan v g) (hk : g ≤ k) (cs : Array Value) : Rd (w.setRow k cs) v l := by
  rcases h with h | ⟨b, o, c, rfl, hc, hm, hcell⟩
  · exact .inl h
  · refine .inr ⟨b, o, c, rfl, hc, hm, fun i hi => ?_⟩
    have hb := ho ⟨b, o, none⟩ _ _ rfl
    have e : (w.setRow k cs).heap[b]? = w.heap[b]? := setRow_other _ _ _ _ (by simp at hb; omega)
    rw [← hcell i hi]
    exact World.cell?_of_block e
theorem RdrAt.setRow {w : World} {g k : Nat} {l : List UInt8} {e : Int} (h : RdrAt w g l e) (hk : g < k) (cs : Array Value) : RdrAt (w.setRow k cs) g l e := by
  obtain ⟨u, hg, hu, ho⟩ := h
  exact ⟨u, by rw [setRow_other _ _ _ _ (by omega)]; exact hg, rd_far hu ho (Nat.le_of_lt hk) _, ho⟩
theorem rd_some {w : World} {v : Value} {l : List UInt8} (h : Rd w v l) (hl : 0 < l.length) : ∃ b o c, v = .slice (some ⟨b, o, none⟩) l.length c := by
  rcases h with ⟨_, rfl⟩ | ⟨b, o, c, hv, _⟩
  · simp at hl
  · exact ⟨b, o, c, hv⟩
theorem rd_cells {w : World} {b o c : Nat} {l : List UInt8} {n : Nat} (h : Rd w (.slice (some ⟨b, o, none⟩) n c) l) : ∀ j v, (bvs l)[j]? = some v → w.cell? ((⟨b, o, none⟩ : Addr).add j) = some v := by
  rcases h with ⟨hv, _⟩ | ⟨b', o', c', hv, _, _, hcell⟩
  · cases hv
  · simp only [Value.slice.injEq, Option.some.injEq, Addr.mk.injEq, and_true] at hv
    obtain ⟨⟨rfl, rfl⟩, _, rfl⟩ := hv
    intro j v hj
    have hjl : j < l.length := by have := (List.getElem?_eq_some_iff.1 hj).1; rwa [bvs_length] at this
    rw [addr_add, hcell j hjl, ← hj, bvs_get l j hjl]
/-- copy that fills a row whole, as one step of a region that draws its order. -/
theorem step_copy_all {w : World} {ops : Array Oper} {o : Oper} {a : Act} {K : Act → World → Prop} {Q : Exit → Act → World → Prop} {E : Prop} (hgd : o.guard = none) (d s : Operand)
    (ho : o.op = .call { callee := .builtin .copy, args := #[d, s], argTypes := #[29, 29] }) (g n dCap sCap b off : Nat) (l : List UInt8) (cur : Array Value)
    (hd : a.eval d = .slice (some ⟨g, 0, none⟩) n dCap) (hs : a.eval s = .slice (some ⟨b, off, none⟩) n sCap) {T : TypeId}
    (hg : w.heap[g]? = some (.cells cur T (0, 0))) (hc : cur.size = n) (hl : l.length = n) (hsrc : ∀ j v, (bvs l)[j]? = some v → w.cell? ((⟨b, off, none⟩ : Addr).add j) = some v)
    (h : K (a.put o.dst (.int .i64 (n : Int))) (w.setRow g (bvs l).toArray)) : if Region.wanted o (yielded ops a.tmps) = true then Oper.wp Try.prog o a w K Q else E := by
  have hw : Region.wanted o (yielded ops a.tmps) = true := by simp [Region.wanted, hgd]
  rw [if_pos hw]
  have hlen : (bvs l).length = n := by rw [bvs_length, hl]
  have hrun := run_copy_row (P := Try.prog) w 29 29 o.type 5 g 0 n dCap ⟨b, off, none⟩ n sCap cur T (bvs l) Try.underlying29 info8s hg (by rw [hlen]; exact (Nat.min_self n).symm) hsrc (by omega) (bvs_one _)
  have e : (cur.toList.take 0 ++ bvs l ++ cur.toList.drop (0 + (bvs l).length)) = bvs l := by
    rw [List.take_zero, List.nil_append, Nat.zero_add, hlen, List.drop_eq_nil_of_le (by simp [hc]), List.append_nil]
  rw [e, hlen] at hrun
  unfold Oper.wp
  simp [execOp, ho, resolve, invoke, builtin, hd, hs, hrun, Result.andThen]
  exact h
structure HashI (w wr : World) (g : Nat) (l : List UInt8) (o : Array Value) : Prop where
  rdr : RdrAt wr g l 0
  res : ∃ z, wr.heap[w.heap.size]? = some (.cells z 23 (0, 0)) ∧ z.size = 32
  out : wr.heap[w.heap.size + 1]? = some (.cells o 23 (0, 0))
  grn : w.grownBy wr (some g)
  lt : g < w.heap.size
theorem HashI.drewN {w wr : World} {g : Nat} {l : List UInt8} {o : Array Value} (h : HashI w wr g l o) (n : Nat) : HashI w (wr.drewN n) g l o :=
  ⟨h.rdr.below (Dr.below (Dr.drewN (Dr.refl _) n) _), h.res, h.out, grown_trans h.grn ⟨rfl, rfl, rfl, Nat.le_refl _, fun _ _ _ => rfl⟩, h.lt⟩
theorem HashI.drew {w wr : World} {g : Nat} {l : List UInt8} {o : Array Value} (h : HashI w wr g l o) : HashI w wr.drew g l o := h.drewN 1
theorem HashI.raw {w wr w' : World} {g : Nat} {l l' : List UInt8} {o : Array Value} (h : HashI w wr g l o) (hg : wr.grownBy w' (some g)) (hr : RdrAt w' g l' 0) : HashI w w' g l' o := by
  have h1 := (Array.getElem?_eq_some_iff.1 h.out).1
  have h2 := h.lt
  obtain ⟨z, hz, hz2⟩ := h.res
  exact ⟨hr, ⟨z, by rw [hg.block _ (by omega) (fun e => by simp at e; omega)]; exact hz, hz2⟩, by rw [hg.block _ h1 (fun e => by simp at e; omega)]; exact h.out, grown_trans h.grn hg, h.lt⟩
theorem HashI.copy {w wr : World} {g : Nat} {l : List UInt8} {o : Array Value} (h : HashI w wr g l o) (o' : Array Value) : HashI w (wr.setRow (w.heap.size + 1) o') g l o' := by
  have h2 := h.lt
  obtain ⟨z, hz, hz2⟩ := h.res
  refine ⟨h.rdr.setRow (by omega) _, ⟨z, by rw [setRow_other _ _ _ _ (by omega)]; exact hz, hz2⟩, setRow_heap _ _ _ _ _ _ h.out, ?_, h.lt⟩
  exact grown_other h.grn (Nat.le_succ _) o'
theorem rawOut_ok (l : List UInt8) (n : Nat) (h : n ≤ l.length) : rawOut l 0 n = l.take n := by unfold rawOut; rw [if_pos rfl, if_pos h]
theorem rawRest_ok (l : List UInt8) (n : Nat) (h : n ≤ l.length) : rawRest l 0 n = l.drop n := by unfold rawRest; rw [if_pos rfl, if_pos h]
theorem rawErr_ok (l : List UInt8) (n : Nat) (h : n ≤ l.length) : rawErr l 0 n = 0 := by unfold rawErr; rw [if_pos rfl, if_pos h]

set_option maxRecDepth 100000 in
set_option maxHeartbeats 3200000 in
theorem hash_any (g : Nat) (l : List UInt8) (w : World) (hr : RdrAt w g l 0) (h32 : 32 ≤ l.length) (hl : l.length ≤ 1099511627776) :
    Calls Try.prog 39 #[.pointer (some ⟨g, 0, none⟩)] w fun e w' => e = .returned (hashV (l.take 32)) ∧ RdrAt w' g (l.drop 32) 0 ∧ w.grownBy w' (some g) := by
  have hlt : g < w.heap.size := by obtain ⟨u, hg, _⟩ := hr; exact (Array.getElem?_eq_some_iff.1 hg).1
  have HR := Lib.hid hr
  have HLT := Lib.hid hlt
  have E1 := Lib.hid (rawOut_ok l 32 h32)
  have E2 := Lib.hid (rawRest_ok l 32 h32)
  have E3 := Lib.hid (rawErr_ok l 32 h32)
  have E4 := Lib.hid (show (l.take 32).length = 32 by rw [List.length_take]; omega)
  have E5 := Lib.hid (show (Try.prog.info? 23).map (·.size) = some (bvs (l.take 32)).toArray.size by rw [arr32_info, List.size_toArray, bvs_length, E4.out])
  clear hr hlt
  go_enter Try.func39, Try.ntmps39
  go_upto_region 2 with fail
  refine wp_world (fun W => ∃ z : Array Value, z.size = 32 ∧ HashI w W g l z) ⟨_, ?_, ⟨HR.out.below (bl_alloc (bl_alloc (Below.refl _ _) _) _), ⟨_, by rw [heap_alloc_old _ _ (by simp)]; exact heap_alloc_new _ _, rfl⟩, by rw [show w.heap.size + 1 = (w.alloc (.cells _ 23)).heap.size from by simp]; exact heap_alloc_new _ _, ?_, HLT.out⟩⟩ ?_
  · rfl
  · have hb := bl_alloc (bl_alloc (Below.refl w.heap.size w) (.cells (List.replicate 32 (Value.int .u8 0)).toArray 23)) (.cells (List.replicate 32 (Value.int .u8 0)).toArray 23)
    exact ⟨hb.os, hb.tape, hb.output, hb.size, fun k hk _ => hb.block k hk⟩
  rintro W ⟨z, hz, hI⟩
  have HI := Lib.hid hI
  have HZ := Lib.hid hz
  clear hI hz
  refine wp_region_noPanic ?_
  refine wp_region_held_drew (S := (fun _ => True)) (by kernel_rfl) ?_ (fun hHeld => ?_)
  · (try dsimp only); (first | done | exact trivial)
  refine wpAnyH_take (i := 0) (v := ?_) (by simp only [List.getElem?_toArray, List.getElem?_cons_succ, List.getElem?_cons_zero]; first | done | rfl) (by kernel_rfl) (by kernel_rfl) (by kernel_rfl) (fun _ _ _ h => h) (Or.inl ⟨by rfl, ?hy⟩) (by assumption) ?_
  case hy => (intro w hSw; (try dsimp only at hSw); go_simp; all_goals with_reducible rfl)
  try simp only [Act.put, List.setIfInBounds_toArray, List.set_cons_zero, List.set_cons_succ]
  refine wpAnyH_take (i := 1) (v := ?_) (by simp only [List.getElem?_toArray, List.getElem?_cons_succ, List.getElem?_cons_zero]; first | done | rfl) (by kernel_rfl) (by kernel_rfl) (by kernel_rfl) (fun _ _ _ h => h) (Or.inl ⟨by rfl, ?hy⟩) (by assumption) ?_
  case hy => (intro w hSw; (try dsimp only at hSw); go_simp; all_goals with_reducible rfl)
  try simp only [Act.put, List.setIfInBounds_toArray, List.set_cons_zero, List.set_cons_succ]
  refine wpAnyH_ready (rs := [2]) (by kernel_rfl) (by simp) ?_
  refine AllReadyH.cons (by simp only [List.getElem?_toArray, List.getElem?_cons_succ, List.getElem?_cons_zero]; first | done | rfl) (fun K hK => ?_) ?_
  · go_simp
    go_at_call 62
    refine (raw_any g 32 l 0 _ (HashI.rdr (by repeat (first | exact HI.out | apply HashI.drew | apply HashI.drewN))) (by omega) hl).mono ?_
    rintro e v2 ⟨u2, rfl, ho, hr2, hg2⟩
    rw [E1.out] at ho
    rw [E2.out, E3.out] at hr2
    obtain ⟨b2, o2, c2, rfl⟩ := rd_some ho.rd (by rw [List.length_take]; omega)
    rw [E4.out]
    have HU := Lib.hid ho.rd
    have HI' := Lib.hid (HashI.raw (by repeat (first | exact HI.out | apply HashI.drew | apply HashI.drewN)) hg2 hr2)
    clear ho hr2 hg2
    have HI := HI'
    clear HI'
    refine hK.out _ _ ?_ (fun hHeld => ?_)
    · (try dsimp only); (first | done | exact trivial)
    clear hK K
    try simp only [Act.put, List.setIfInBounds_toArray, List.set_cons_zero, List.set_cons_succ]
    refine wpAnyH_ready (rs := [3]) (by kernel_rfl) (by simp) ?_
    refine AllReadyH.cons (by simp only [List.getElem?_toArray, List.getElem?_cons_succ, List.getElem?_cons_zero]; first | done | rfl) (fun K hK => ?_) ?_
    · skip
      refine step_copy_all rfl (.tmp 4) (.tmp 6) rfl (w.heap.size + 1) 32 32 c2 b2 o2 (l.take 32) z rfl rfl (HashI.out (by repeat (first | exact HI.out | apply HashI.drew | apply HashI.drewN))) HZ.out E4.out (rd_cells HU.out) ?_
      have HI' := Lib.hid (HashI.copy (by repeat (first | exact HI.out | apply HashI.drew | apply HashI.drewN)) (bvs (l.take 32)).toArray)
      have HI := HI'
      clear HI'
      refine hK.out _ _ ?_ (fun hHeld => ?_)
      · (try dsimp only); (first | done | exact trivial)
      clear hK K
      try simp only [Act.put, List.setIfInBounds_toArray, List.set_cons_zero, List.set_cons_succ]
      refine wpAnyH_done (by kernel_rfl) ?_ _
      refine NoPanic.normal ?_
      go_upto_region 3 with fail
      refine wp_world (fun Y => HashI w Y g (l.drop 32) (bvs (l.take 32)).toArray) (by repeat (first | exact HI.out | apply HashI.drew | apply HashI.drewN)) ?_
      intro Y hY
      have HY := Lib.hid hY
      clear hY HI
      refine wp_region_lit ?_
      refine wpList_load_row rfl 23 (.tmp 3) rfl (w.heap.size + 1) rfl 23 _ (0, 0) _ HY.out.out Try.underlying23 rfl E5.out ?_
      obtain ⟨z2, hz, hz2⟩ := HY.out.res
      refine wpList_store_row rfl 23 (.tmp 2) (.tmp 8) rfl w.heap.size (bvs (l.take 32)).toArray rfl rfl 23 _ hz E5.out (by rw [hz2, List.size_toArray, bvs_length, E4.out]) (bvs_all _) ?_
      go_wp2_with fail
      exact bodyPost_ret (v := hashV (l.take 32)) (results_cell_row rfl _ _ w.heap.size 23 _ (0, 0) _ rfl (setRow_heap _ _ _ _ _ _ hz) Try.underlying23 rfl E5.out) rfl ⟨rfl, HY.out.rdr.setRow HY.out.lt _, grown_other HY.out.grn (Nat.le_refl _) _⟩
    exact AllReadyH.nil
  exact AllReadyH.nil
end Go.Proofs.Yteapoemockimfaa
