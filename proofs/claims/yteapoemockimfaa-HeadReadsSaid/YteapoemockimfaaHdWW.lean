/-
  The reference's reader, where there is enough to read. The reference's reader reads a hash. Heads: HeadRead, the reference's. append(b, make([]byte, n)...) to a slice of one's own. append of bytes to a full slice that is not one's own; a byte of one's own slice written. HeadReads: for every input the law returns true.
-/
import Derived.Test.YteapoemockimfaaHdQ
import Derived.Test.YteapoemockimfaaHdB
import Derived.Test.YteapoemockimfaaHdD
import Derived.Test.YteapoemockimfaaCat
import Derived.Test.YteapoemockimfaaRow
import Derived.Test.YteapoemockimfaaHdO
import Derived.Lib.SlBytesConst
section
namespace Go.Proofs.Yteapoemockimfaa
set_option linter.unusedVariables false
set_option maxRecDepth 100000
set_option linter.unusedSimpArgs false
open Go.RowKit

/-- A reader of the reference at a block, without an error: the bytes that are left. -/
def RRAt (w : World) (g : Nat) (l : List UInt8) : Prop :=
  ∃ u, w.heap[g]? = some (.cells #[u, .int .i64 0] 84 (0, 0)) ∧ Rd w u l ∧ OldThan u g
theorem RRAt.below {w w' : World} {g : Nat} {l : List UInt8} (h : RRAt w g l) (hb : Below w.heap.size w w') : RRAt w' g l := by
  obtain ⟨u, hg, hu, ho⟩ := h
  exact ⟨u, by rw [hb.block g (Array.getElem?_eq_some_iff.1 hg).1]; exact hg, hu.below hb, ho⟩
theorem RRAt.lt {w : World} {g : Nat} {l : List UInt8} (h : RRAt w g l) : g < w.heap.size := by obtain ⟨u, hg, _⟩ := h; exact (Array.getElem?_eq_some_iff.1 hg).1

set_option maxHeartbeats 1600000 in
theorem rraw_any (g n : Nat) (l : List UInt8) (w : World) (hr : RRAt w g l) (hn : n ≤ l.length) (h0 : 0 < n) (hl : l.length ≤ 1099511627776) :
    Calls Try.prog 63 #[.pointer (some ⟨g, 0, none⟩), .int .i64 (n : Int)] w fun e w' => ∃ v, e = .returned v ∧ Rd w' v (l.take n) ∧ OldThan v g ∧ RRAt w' g (l.drop n) ∧ w.grownBy w' (some g) := by
  obtain ⟨u, hg, hu, hold⟩ := hr
  obtain ⟨b, o, c, rfl⟩ := rd_some hu (by omega)
  obtain ⟨c0, c1, f0, f1⟩ := cell_two w g _ _ _ hg
  have hmax : max (n : Int) 0 = n := by omega
  have hlc : l.length ≤ c := by
    rcases hu with ⟨h, _⟩ | ⟨b', o', c', h, hc, _⟩
    · cases h
    · simp at h; omega
  have hnc : n ≤ c := by omega
  have HT := Lib.hid (hu.take n hn)
  have HG := Lib.hid hg
  have hnon := rdr_non (some ⟨b, o, none⟩) l.length c 0
  have HN := Lib.hid hnon
  have HOLD := Lib.hid hold
  have HU := Lib.hid hu
  clear hg hu hnon hold
  by_cases hcn : c = n
  · subst hcn
    have hD : Rd w (.slice (some ⟨b, o, none⟩) (l.length - c) (c - c)) (l.drop c) := HU.out.drop c hn _ (by intro h; omega) ⟨_, _, rfl⟩
    have e1 : l.length - c = 0 := by omega
    have e2 : c - c = 0 := by omega
    rw [e1, e2] at hD
    have HD := Lib.hid hD
    clear hD e1 e2
    go_enter Try.func63, Try.ntmps63
    go_wp2_with fail
    go_ret
    exact ⟨_, rfl, HT.out.setNon HG.out HN.out _, HOLD.out.slice _ _, ⟨_, heap_setCell_same _ _ _ _ _ _ HG.out, HD.out.setNon HG.out HN.out _, HOLD.out.slice _ _⟩, grown_set _ _ _ _⟩
  · have HD := Lib.hid (HU.out.drop n hn ⟨b, o + n, none⟩ (fun _ => rfl) ⟨_, _, rfl⟩)
    go_enter Try.func63, Try.ntmps63
    go_wp2_with fail
    go_ret
    exact ⟨_, rfl, HT.out.setNon HG.out HN.out _, HOLD.out.slice _ _, ⟨_, heap_setCell_same _ _ _ _ _ _ HG.out, HD.out.setNon HG.out HN.out _, fun x m d e => by cases e; exact HOLD.out ⟨b, o, none⟩ _ _ rfl⟩, grown_set _ _ _ _⟩

set_option maxHeartbeats 1600000 in
theorem rnumb_any (g : Nat) (l : List UInt8) (w : World) (hr : RRAt w g l) (hn : 8 ≤ l.length) (hl : l.length ≤ 1099511627776) :
    Calls Try.prog 43 #[.pointer (some ⟨g, 0, none⟩)] w fun e w' => e = .returned (.int .u64 (leNum (l.take 8))) ∧ RRAt w' g (l.drop 8) ∧ w.grownBy w' (some g) := by
  have h8 : (l.take 8).length = 8 := by rw [List.length_take]; omega
  have hraw := rraw_any g 8 l w hr hn (by omega) hl
  generalize l.take 8 = q at *
  generalize l.drop 8 = r at *
  have HR := Lib.hid hraw
  have H8 := Lib.hid h8
  clear hr h8 hraw
  go_enter Try.func43, Try.ntmps43
  go_wp2_with fail
  refine HR.out.mono ?_
  rintro e w1 ⟨v, rfl, hv, ho, ⟨u, hg, hu, hold⟩, hgr⟩
  obtain ⟨a, c, rfl⟩ := hv.shape
  obtain ⟨c0, c1, f0, f1⟩ := cell_two w1 g _ _ _ hg
  have HV := Lib.hid hv
  have HA := Lib.hid (show RRAt w1 g r from ⟨u, hg, hu, hold⟩)
  have HG := Lib.hid hgr
  clear hv ho hg hu hold hgr
  go_wp2_with fail
  refine (rword_any _ q _ HV.out H8.out).mono ?_
  rintro e w2 ⟨rfl, rfl⟩
  go_wp2_with fail
  go_ret
  exact ⟨rfl, HA.out, HG.out⟩
theorem rint_any (g : Nat) (l : List UInt8) (w : World) (hr : RRAt w g l) (hn : 8 ≤ l.length) (hl : l.length ≤ 1099511627776) :
    Calls Try.prog 41 #[.pointer (some ⟨g, 0, none⟩)] w fun e w' => e = .returned (.int .i64 (intF (leNum (l.take 8)))) ∧ RRAt w' g (l.drop 8) ∧ w.grownBy w' (some g) := by
  obtain ⟨n0, n1⟩ := leNum_u64 (l.take 8) (by rw [List.length_take]; omega)
  have HR := Lib.hid (rnumb_any g l w hr hn hl)
  clear hr
  unfold intF
  generalize leNum (l.take 8) = n at *
  by_cases h : 9223372036854775807 < n
  · rw [if_pos h]
    go_enter Try.func41, Try.ntmps41
    go_wp2_with fail
    refine HR.out.mono ?_
    rintro e w1 ⟨rfl, h1, h2⟩
    have H1 := Lib.hid h1
    have H2 := Lib.hid h2
    clear h1 h2
    go_wp2_with fail
    go_ret
    exact ⟨rfl, H1.out, H2.out⟩
  · rw [if_neg h]
    go_enter Try.func41, Try.ntmps41
    go_wp2_with fail
    refine HR.out.mono ?_
    rintro e w1 ⟨rfl, h1, h2⟩
    have H1 := Lib.hid h1
    have H2 := Lib.hid h2
    clear h1 h2
    go_wp2_with fail
    go_ret
    exact ⟨rfl, H1.out, H2.out⟩
end Go.Proofs.Yteapoemockimfaa
end

section
namespace Go.Proofs.Yteapoemockimfaa
set_option linter.unusedVariables false
set_option linter.unusedSimpArgs false
set_option maxRecDepth 100000
open Go.RowKit

theorem RRAt.setFar {w : World} {g k o : Nat} {l : List UInt8} (h : RRAt w g l) (hk : g < k) (x : Value) : RRAt (w.setCell ⟨k, o, none⟩ x) g l := by
  obtain ⟨u, hg, hu, ho⟩ := h
  refine ⟨u, by rw [heap_far _ _ _ _ _ (by omega)]; exact hg, ?_, ho⟩
  rcases hu with hx | ⟨b', o', c, rfl, hc, hm, hcell⟩
  · exact .inl hx
  · refine .inr ⟨b', o', c, rfl, hc, hm, fun i hi => ?_⟩
    have hb := ho ⟨b', o', none⟩ _ _ rfl
    simp at hb
    rw [← hcell i hi, cell_far _ _ _ _ _ _ (by omega)]
def partB (q : List UInt8) (i : Nat) : List UInt8 := q.take i ++ List.replicate (32 - i) 0
theorem partB_length (q : List UInt8) (i : Nat) (hi : i ≤ 32) (hq : q.length = 32) : (partB q i).length = 32 := by simp [partB]; omega
theorem partB_set (q : List UInt8) (i : Nat) (hi : i < 32) (hq : q.length = 32) : (partB q i).set i (q[i]'(by omega)) = partB q (i + 1) := by
  unfold partB
  have hl : (q.take i).length = i := by rw [List.length_take]; omega
  rw [List.set_append_right _ _ (by omega), hl, Nat.sub_self, show 32 - i = (32 - (i + 1)) + 1 by omega, List.replicate_succ, List.set_cons_zero, List.take_succ_eq_append_getElem (by omega), List.append_assoc]
  rfl
structure RHashI (w wr : World) (g bk o c : Nat) (q r : List UInt8) (i : Nat) : Prop where
  rdr : RRAt wr g r
  src : ∀ j (h : j < q.length), wr.cell? ⟨bk, o + j, none⟩ = some (bv q[j])
  old : bk < g
  res : ∃ z, wr.heap[w.heap.size]? = some (.cells z 23 (0, 0)) ∧ z.size = 32
  out : wr.heap[w.heap.size + 1]? = some (.cells (bvs (partB q i)).toArray 23 (0, 0))
  grn : w.grownBy wr (some g)
  lt : g < w.heap.size
theorem grown_setFar {w wr : World} {row : Option Nat} (h : w.grownBy wr row) {k : Nat} (hk : w.heap.size ≤ k) (o : Nat) (x : Value) : w.grownBy (wr.setCell ⟨k, o, none⟩ x) row := by
  have hg := grown_set wr k o x
  exact ⟨hg.os.trans h.os, hg.tape.trans h.tape, hg.output.trans h.output, Nat.le_trans h.size hg.size, fun i hi hne => (hg.block i (Nat.lt_of_lt_of_le hi h.size) (fun e => by simp at e; omega)).trans (h.block i hi hne)⟩
theorem RHashI.step {w wr : World} {g bk o c : Nat} {q r : List UInt8} {i : Nat} (h : RHashI w wr g bk o c q r i) (hi : i < 32) (hq : q.length = 32) :
    RHashI w (wr.setCell ⟨w.heap.size + 1, i, none⟩ (bv (q[i]'(by omega)))) g bk o c q r (i + 1) := by
  have h1 := h.lt
  have h2 := h.old
  obtain ⟨z, hz, hz2⟩ := h.res
  refine ⟨h.rdr.setFar (by omega) _, fun j hj => by rw [cell_far _ _ _ _ _ _ (by omega)]; exact h.src j hj, h.old, ⟨z, by rw [heap_far _ _ _ _ _ (by omega)]; exact hz, hz2⟩, ?_, grown_setFar h.grn (by omega) _ _, h.lt⟩
  rw [heap_setCell_same _ _ _ _ _ _ h.out, ← partB_set q i hi hq]
  simp [bvs, List.map_set]

set_option maxHeartbeats 3200000 in
theorem rhash_any (g : Nat) (l : List UInt8) (w : World) (hr : RRAt w g l) (h32 : 32 ≤ l.length) (hl : l.length ≤ 1099511627776) :
    Calls Try.prog 42 #[.pointer (some ⟨g, 0, none⟩)] w fun e w' => e = .returned (hashV (l.take 32)) ∧ RRAt w' g (l.drop 32) ∧ w.grownBy w' (some g) := by
  have hlt := hr.lt
  have E4 := Lib.hid (show (l.take 32).length = 32 by rw [List.length_take]; omega)
  have HRW := Lib.hid (fun (W : World) (h : RRAt W g l) => rraw_any g 32 l W h h32 (by omega) hl)
  have HR := Lib.hid hr
  have HLT := Lib.hid hlt
  clear hr hlt h32
  generalize l.take 32 = q at *
  generalize l.drop 32 = r at *
  have E5 := Lib.hid (show (Try.prog.info? 23).map (·.size) = some (bvs q).toArray.size by rw [arr32_info, List.size_toArray, bvs_length, E4.out])
  go_enter Try.func42, Try.ntmps42
  go_upto_region 2 with fail
  refine wp_world (fun W => RRAt W g l ∧ (∃ z, W.heap[w.heap.size]? = some (.cells z 23 (0, 0)) ∧ z.size = 32) ∧ W.heap[w.heap.size + 1]? = some (.cells (bvs (List.replicate 32 0)).toArray 23 (0, 0)) ∧ w.grownBy W (some g) ∧ W.heap.size = w.heap.size + 2) ⟨HR.out.below (bl_alloc (bl_alloc (Below.refl _ _) _) _), ⟨_, by rw [heap_alloc_old _ _ (by simp)]; exact heap_alloc_new _ _, rfl⟩, ?_, ?_, by simp⟩ ?_
  · rw [show w.heap.size + 1 = (w.alloc (.cells (bvs (List.replicate 32 0)).toArray 23)).heap.size by simp]
    exact heap_alloc_new _ _
  · have hb := bl_alloc (bl_alloc (Below.refl w.heap.size w) (.cells (bvs (List.replicate 32 0)).toArray 23)) (.cells (bvs (List.replicate 32 0)).toArray 23)
    exact ⟨hb.os, hb.tape, hb.output, hb.size, fun k hk _ => hb.block k hk⟩
  rintro W ⟨h1, ⟨z, h2, h2'⟩, h3, h4, h5⟩
  have H1 := Lib.hid h1
  have H2 := Lib.hid (And.intro h2 h2')
  have H3 := Lib.hid h3
  have H4 := Lib.hid h4
  have H5 := Lib.hid h5
  clear h1 h2 h2' h3 h4 h5
  go_wp2_with fail
  refine (HRW.out _ H1.out).mono ?_
  rintro e w1 ⟨v, rfl, hv, ho, hr1, hg1⟩
  obtain ⟨bk, o, c, rfl, hcell, hcap, hmx⟩ : ∃ bk o c, v = .slice (some ⟨bk, o, none⟩) 32 c ∧ (∀ j (h : j < q.length), w1.cell? ⟨bk, o + j, none⟩ = some (bv q[j])) ∧ 32 ≤ c ∧ c ≤ maxLen := by
    have h := E4.out
    rcases hv with ⟨_, rfl⟩ | ⟨bk, o, c, he, hc, hm, hcell⟩
    · simp at h
    · exact ⟨bk, o, c, by rw [he, h], hcell, by omega, hm⟩
  have hI : RHashI w w1 g bk o c q r 0 := by
    have hlt := HLT.out
    refine ⟨hr1, hcell, ho ⟨bk, o, none⟩ _ _ rfl, ⟨z, by rw [hg1.block _ (by rw [H5.out]; omega) (fun e => by simp at e; omega)]; exact H2.out.1, H2.out.2⟩, ?_, grown_trans H4.out hg1, hlt⟩
    rw [hg1.block _ (by rw [H5.out]; omega) (fun e => by simp at e; omega)]
    exact H3.out
  clear hcell hv ho hr1 hg1
  go_wp2_with fail
  go_loopw [5] (fun v5 wr => ∃ i : Nat, v5 = .int .i64 i ∧ i ≤ 32 ∧ RHashI w wr g bk o c q r i) (fun v5 _ => 32 - (intOf v5).toNat)
  case atStart => exact ⟨0, rfl, by omega, hI⟩
  case round =>
    obtain ⟨i, rfl, hi, hJ⟩ := hrel
    have HJ := Lib.hid hJ
    clear hJ hI
    by_cases hlt : i < 32
    · have hiq : i < q.length := by rw [E4.out]; exact hlt
      have hc1 := HJ.out.src i hiq
      have hc2 : wr.cell? ⟨w.heap.size + 1, i, none⟩ = some (bv ((partB q i)[i]'(by rw [partB_length q i hi E4.out]; exact hlt))) := by
        rw [cell_of_row _ _ _ _ _ _ HJ.out.out, List.getElem?_toArray, bvs_get _ _ (by rw [partB_length q i hi E4.out]; exact hlt)]
      have hf2 := frozen_of_row _ _ i _ _ HJ.out.out
      have HS := Lib.hid (HJ.out.step hlt E4.out)
      unfold bv at hc1 hc2 HS
      generalize ((partB q i)[i]'(by rw [partB_length q i hi E4.out]; exact hlt)).toNat = y at hc2
      generalize hx : (q[i]'hiq).toNat = x at *
      clear hx
      have hi0 : (0 : Int) ≤ (i : Int) := by omega
      have hi3 : (i : Int) < 32 := by omega
      go_wp2_with fail
      go_roundw
      case rel => exact ⟨i + 1, by go_num, by omega, HS.out⟩
      case measure => simp [intOf]; omega
    · obtain rfl : i = 32 := by omega
      have hp : partB q 32 = q := by unfold partB; rw [List.take_of_length_le (by rw [E4.out]; omega)]; simp
      have HO := Lib.hid (show wr.heap[w.heap.size + 1]? = some (.cells (bvs q).toArray 23 (0, 0)) by have h := HJ.out.out; rw [hp] at h; exact h)
      clear hp
      go_upto_region 7 with fail
      refine wp_region_lit ?_
      refine wpList_load_row rfl 23 (.tmp 3) rfl (w.heap.size + 1) rfl 23 _ (0, 0) _ HO.out Try.underlying23 rfl E5.out ?_
      obtain ⟨z2, hz, hz2⟩ := HJ.out.res
      refine wpList_store_row rfl 23 (.tmp 2) (.tmp 20) rfl w.heap.size (bvs q).toArray rfl rfl 23 _ hz E5.out (by rw [hz2, List.size_toArray, bvs_length, E4.out]) (bvs_all _) ?_
      go_wp2_with fail
      have hrd : RRAt (wr.setRow w.heap.size (bvs q).toArray) g r := by
        obtain ⟨u, hg, hu, ho⟩ := HJ.out.rdr
        exact ⟨u, by rw [setRow_other _ _ _ _ (by have := HLT.out; omega)]; exact hg, rd_far hu ho (Nat.le_of_lt HLT.out) _, ho⟩
      exact bodyPost_ret (v := hashV q) (results_cell_row rfl _ _ w.heap.size 23 _ (0, 0) _ rfl (setRow_heap _ _ _ _ _ _ hz) Try.underlying23 rfl E5.out) rfl ⟨rfl, hrd, grown_other HJ.out.grn (Nat.le_refl _) _⟩
end Go.Proofs.Yteapoemockimfaa
end

section
namespace Go.Proofs.Yteapoemockimfaa
set_option linter.unusedVariables false
set_option linter.unusedSimpArgs false
open Go.RowKit
attribute [local irreducible] checkF msgF num8 zeroH

theorem rint_at (b : List UInt8) (g k : Nat) (w : World) (hr : RRAt w g (b.drop k)) (hk : k + 8 ≤ b.length) (hl : b.length ≤ 1099511627776) :
    Calls Try.prog 41 #[.pointer (some ⟨g, 0, none⟩)] w fun e w' => e = .returned (.int .i64 (intF (num8 b k))) ∧ RRAt w' g (b.drop (k + 8)) ∧ w.grownBy w' (some g) := by
  refine (rint_any g (b.drop k) w hr (by rw [List.length_drop]; omega) (by rw [List.length_drop]; omega)).mono ?_
  rintro e w' ⟨rfl, h1, h2⟩
  rw [List.drop_drop] at h1
  unfold num8
  exact ⟨rfl, h1, h2⟩
theorem rnum_at (b : List UInt8) (g k : Nat) (w : World) (hr : RRAt w g (b.drop k)) (hk : k + 8 ≤ b.length) (hl : b.length ≤ 1099511627776) :
    Calls Try.prog 43 #[.pointer (some ⟨g, 0, none⟩)] w fun e w' => e = .returned (.int .u64 (num8 b k)) ∧ RRAt w' g (b.drop (k + 8)) ∧ w.grownBy w' (some g) := by
  refine (rnumb_any g (b.drop k) w hr (by rw [List.length_drop]; omega) (by rw [List.length_drop]; omega)).mono ?_
  rintro e w' ⟨rfl, h1, h2⟩
  rw [List.drop_drop] at h1
  unfold num8
  exact ⟨rfl, h1, h2⟩
theorem rhash_at (b : List UInt8) (g k : Nat) (w : World) (hr : RRAt w g (b.drop k)) (hk : k + 32 ≤ b.length) (hl : b.length ≤ 1099511627776) :
    Calls Try.prog 42 #[.pointer (some ⟨g, 0, none⟩)] w fun e w' => e = .returned (hashV ((b.drop k).take 32)) ∧ RRAt w' g (b.drop (k + 32)) ∧ w.grownBy w' (some g) := by
  refine (rhash_any g (b.drop k) w hr (by rw [List.length_drop]; omega) (by rw [List.length_drop]; omega)).mono ?_
  rintro e w' ⟨rfl, h1, h2⟩
  rw [List.drop_drop] at h1
  exact ⟨rfl, h1, h2⟩
/-- A store of many cells into a part of a row. -/
theorem wpList_store_part {ops : Array Oper} {rest : List Oper} {op : Oper} {a : Act} {w : World} {Q : Exit → Act → World → Prop} (hgd : op.guard = none) (ty : TypeId) (x y : Operand) (ho : op.op = .store ty x y)
    (g o : Nat) (cells : List Value) (hx : a.eval x = .pointer (some ⟨g, o, none⟩)) (hy : a.eval y = .agg cells.toArray) (t : TypeId) (cur : Array Value) (hg : w.heap[g]? = some (.cells cur t (0, 0)))
    (hfit : o + cells.length ≤ cur.size) (hi : (Try.prog.info? ty).map (·.size) = some cells.length) (h1 : ∀ v ∈ cells, v.oneCell' = true)
    (h : wpList Try.prog ops Q rest (a.put op.dst undef) (w.setRow g (cur.toList.take o ++ cells ++ cur.toList.drop (o + cells.length)).toArray)) : wpList Try.prog ops Q (op :: rest) a w :=
  wpList_plain hgd fun _ hK => by
    have hst := run_storeCells_at Try.prog g o t cells 0 cur w hg (by simpa using hfit) h1
    simp only [Nat.add_zero] at hst
    have hrun : (storeVar ty ⟨g, o, none⟩ (.agg cells.toArray)).run Try.prog w = .ok () (w.setRow g (cur.toList.take o ++ cells ++ cur.toList.drop (o + cells.length)).toArray) := by
      cases hq : Try.prog.info? ty with
      | none => simp [hq] at hi
      | some i =>
        have hs : cells.length = i.size := by simp [hq] at hi; omega
        simp [storeVar, sizeOf, typeInfo, hq, Value.cells, hs, hst]
    unfold Oper.wp execOp
    simp only [ho, hx, hy, Instr.storeAt, Instr.sureAddr, Sem.run_bind, Sem.run_pure, Result.andThen_ok, hrun]
    exact hK _ _ h
theorem splice {α : Type} (A B B' C : List α) (n m : Nat) (hn : n = A.length) (hm : m = B.length) : (A ++ (B ++ C)).take n ++ B' ++ (A ++ (B ++ C)).drop (n + m) = A ++ (B' ++ C) := by
  subst hn hm
  rw [List.take_left, ← List.append_assoc A B C, ← List.length_append, List.drop_left, List.append_assoc]
theorem set_root (h : Hd) (ok : h.ok) (r : List UInt8) (hr : r.length = 32) : h.cells.toArray.toList.take 3 ++ bvs r ++ h.cells.toArray.toList.drop (3 + (bvs r).length) = ({ h with root := r } : Hd).cells := by
  rw [List.toList_toArray, bvs_length, hr]
  exact splice [.int .i64 h.ep, .int .i64 h.tk, .int .i64 h.ct] (bvs h.root) (bvs r) (bvs h.log ++ [.int .u64 h.r, .int .u64 h.s]) 3 32 rfl (by rw [bvs_length, ok.root])
theorem set_log (h : Hd) (ok : h.ok) (r : List UInt8) (hr : r.length = 32) : h.cells.toArray.toList.take 35 ++ bvs r ++ h.cells.toArray.toList.drop (35 + (bvs r).length) = ({ h with log := r } : Hd).cells := by
  rw [List.toList_toArray, bvs_length, hr]
  have e : ∀ k : Hd, k.cells = ([.int .i64 k.ep, .int .i64 k.tk, .int .i64 k.ct] ++ bvs k.root) ++ (bvs k.log ++ [.int .u64 k.r, .int .u64 k.s]) := fun k => by simp [Hd.cells]
  rw [e h, e { h with log := r }]
  exact splice _ _ _ _ 35 32 (by simp [bvs_length, ok.root]) (by rw [bvs_length, ok.log])
/-- What HeadRead's memory holds while it reads. -/
structure RDI (w cur : World) (b : List UInt8) (g gh k : Nat) (h : Hd) : Prop where
  res : HA w.heap.size zeroH cur
  bel : Below w.heap.size w cur
  rdr : RRAt cur g (b.drop k)
  lt : w.heap.size < g
  box : HA gh h cur
  lt2 : g < gh
theorem RDI.read {w cur w' : World} {b : List UInt8} {g gh k k' : Nat} {h : Hd} (x : RDI w cur b g gh k h) (hr : RRAt w' g (b.drop k')) (hg : cur.grownBy w' (some g)) : RDI w w' b g gh k' h :=
  ⟨x.res.grown hg (fun e => by have := x.lt; simp at e; omega), below_grown x.bel hg (fun k hk => by have := x.lt; simp at hk; omega), hr, x.lt, x.box.grown hg (fun e => by have := x.lt2; simp at e; omega), x.lt2⟩
theorem RDI.setC {w cur : World} {b : List UInt8} {g gh k : Nat} {h h' : Hd} (x : RDI w cur b g gh k h) (o : Nat) (v : Value) (hc : h.cells.set o v = h'.cells) : RDI w (cur.setCell ⟨gh, o, none⟩ v) b g gh k h' := by
  have h1 := x.lt
  have h2 := x.lt2
  refine ⟨⟨by rw [heap_far _ _ _ _ _ (by omega)]; exact x.res.row⟩, below_set x.bel _ _ _ (by omega), x.rdr.setFar h2 _, h1, ⟨?_⟩, h2⟩
  rw [heap_setCell_same _ _ _ _ _ _ x.box.row, ← hc]
  simp
theorem RDI.setR {w cur : World} {b : List UInt8} {g gh k : Nat} {h h' : Hd} (x : RDI w cur b g gh k h) : RDI w (cur.setRow gh h'.cells.toArray) b g gh k h' := by
  have h1 := x.lt
  have h2 := x.lt2
  refine ⟨⟨by rw [setRow_other _ _ _ _ (by omega)]; exact x.res.row⟩, below_setRow x.bel (by omega), ?_, h1, ⟨setRow_heap _ _ _ _ _ _ x.box.row⟩, h2⟩
  obtain ⟨u, hg, hu, ho⟩ := x.rdr
  exact ⟨u, by rw [setRow_other _ _ _ _ (by omega)]; exact hg, rd_far hu ho (Nat.le_of_lt h2) _, ho⟩
theorem cells_split (h : Hd) : h.cells = (Value.int .i64 h.ep :: .int .i64 h.tk :: .int .i64 h.ct :: (bvs h.root ++ bvs h.log)) ++ [.int .u64 h.r, .int .u64 h.s] := by simp [Hd.cells]
theorem cells_pre (h : Hd) (ok : h.ok) : (Value.int .i64 h.ep :: .int .i64 h.tk :: .int .i64 h.ct :: (bvs h.root ++ bvs h.log)).length = 67 := by simp [bvs_length, ok.root, ok.log]
theorem cells_r (h : Hd) (ok : h.ok) (r : Int) : h.cells.set 67 (.int .u64 r) = ({ h with r := r } : Hd).cells := by
  rw [cells_split h, cells_split { h with r := r }, List.set_append_right _ _ (by rw [cells_pre h ok]; omega), cells_pre h ok]
  rfl
theorem cells_s (h : Hd) (ok : h.ok) (s : Int) : h.cells.set 68 (.int .u64 s) = ({ h with s := s } : Hd).cells := by
  rw [cells_split h, cells_split { h with s := s }, List.set_append_right _ _ (by rw [cells_pre h ok]; omega), cells_pre h ok]
  rfl

set_option maxRecDepth 100000 in
set_option maxHeartbeats 3200000 in
theorem rreadh_any (v : Value) (b : List UInt8) (w : World) (hv : Rd w v b) (hl : b.length ≤ 1099511627776) : Calls Try.prog 22 #[v] w (GivesRead w b) := by
  obtain ⟨p, c, rfl⟩ := hv.shape
  have HV := Lib.hid hv
  clear hv
  unfold GivesRead
  by_cases h1 : 512 < b.length
  · have he : readH b = (zeroH, 22) := by have h : headErr b = 22 := (by unfold headErr; rw [if_pos h1]); unfold readH; rw [if_neg (by rw [h]; decide), h]
    rw [he]; clear he
    have h1' : (512 : Int) < (b.length : Int) := by omega
    go_enter Try.func22, Try.ntmps22
    go_upto_region 1 with fail
    rw [zero_cells]
    refine wp_world (fun W => HA w.heap.size zeroH W ∧ Below w.heap.size w W) ⟨HA.new zeroH w, bl_alloc (Below.refl _ _) _⟩ ?_
    rintro W ⟨hA, hB⟩
    have HH := Lib.hid hA
    have HB := Lib.hid hB
    clear hA hB
    go_upto_region 2 with fail
    refine wp_region_lit ?_
    refine wpList_built rfl 28 #[] rfl [] (by simp) zeroH.cells.toArray built_head0 ?_
    refine wpList_store_row rfl 28 (.tmp 2) (.tmp 10) rfl w.heap.size zeroH.cells.toArray rfl rfl 28 _ HH.out.row (head_size _ zeroH_ok) rfl (all_oneCell_toArray zeroH.cells_one) ?_
    go_wp2_with fail
    exact bodyPost_ret (v := .tuple #[headV zeroH, .int .i64 22]) (results_row_tmp (p := 2) (u := 3) rfl _ _ w.heap.size zeroH.cells.toArray rfl (head_loads ⟨setRow_heap _ _ _ _ _ _ HH.out.row⟩ zeroH_ok)) rfl ⟨rfl, below_setRow HB.out (Nat.le_refl _)⟩
  have h1' : ¬ ((512 : Int) < (b.length : Int)) := by omega
  by_cases h2 : b.length < 105
  · have he : readH b = (zeroH, 21) := by have h : headErr b = 21 := (by unfold headErr; rw [if_neg h1, if_pos h2]); unfold readH; rw [if_neg (by rw [h]; decide), h]
    rw [he]; clear he
    have h2' : (b.length : Int) < 105 := by omega
    go_enter Try.func22, Try.ntmps22
    go_upto_region 1 with fail
    rw [zero_cells]
    refine wp_world (fun W => HA w.heap.size zeroH W ∧ Below w.heap.size w W) ⟨HA.new zeroH w, bl_alloc (Below.refl _ _) _⟩ ?_
    rintro W ⟨hA, hB⟩
    have HH := Lib.hid hA
    have HB := Lib.hid hB
    clear hA hB
    go_upto_region 4 with fail
    refine wp_region_lit ?_
    refine wpList_built rfl 28 #[] rfl [] (by simp) zeroH.cells.toArray built_head0 ?_
    refine wpList_store_row rfl 28 (.tmp 2) (.tmp 15) rfl w.heap.size zeroH.cells.toArray rfl rfl 28 _ HH.out.row (head_size _ zeroH_ok) rfl (all_oneCell_toArray zeroH.cells_one) ?_
    go_wp2_with fail
    exact bodyPost_ret (v := .tuple #[headV zeroH, .int .i64 21]) (results_row_tmp (p := 2) (u := 3) rfl _ _ w.heap.size zeroH.cells.toArray rfl (head_loads ⟨setRow_heap _ _ _ _ _ _ HH.out.row⟩ zeroH_ok)) rfl ⟨rfl, below_setRow HB.out (Nat.le_refl _)⟩
  have h2' : ¬ ((b.length : Int) < 105) := by omega
  by_cases h3 : 105 < b.length
  · have he : readH b = (zeroH, 20) := by have h : headErr b = 20 := (by unfold headErr; rw [if_neg h1, if_neg h2, if_pos h3]); unfold readH; rw [if_neg (by rw [h]; decide), h]
    rw [he]; clear he
    have h3' : (105 : Int) < (b.length : Int) := by omega
    go_enter Try.func22, Try.ntmps22
    go_upto_region 1 with fail
    rw [zero_cells]
    refine wp_world (fun W => HA w.heap.size zeroH W ∧ Below w.heap.size w W) ⟨HA.new zeroH w, bl_alloc (Below.refl _ _) _⟩ ?_
    rintro W ⟨hA, hB⟩
    have HH := Lib.hid hA
    have HB := Lib.hid hB
    clear hA hB
    go_upto_region 6 with fail
    refine wp_region_lit ?_
    refine wpList_built rfl 28 #[] rfl [] (by simp) zeroH.cells.toArray built_head0 ?_
    refine wpList_store_row rfl 28 (.tmp 2) (.tmp 26) rfl w.heap.size zeroH.cells.toArray rfl rfl 28 _ HH.out.row (head_size _ zeroH_ok) rfl (all_oneCell_toArray zeroH.cells_one) ?_
    go_wp2_with fail
    exact bodyPost_ret (v := .tuple #[headV zeroH, .int .i64 20]) (results_row_tmp (p := 2) (u := 3) rfl _ _ w.heap.size zeroH.cells.toArray rfl (head_loads ⟨setRow_heap _ _ _ _ _ _ HH.out.row⟩ zeroH_ok)) rfl ⟨rfl, below_setRow HB.out (Nat.le_refl _)⟩
  have h3' : ¬ ((105 : Int) < (b.length : Int)) := by omega
  have hb : b.length = 105 := by omega
  have HE := Lib.hid hb
  obtain ⟨bk, o, c', hpe, hc5, hcell⟩ : ∃ bk o c', (Value.slice p b.length c) = .slice (some ⟨bk, o, none⟩) 105 c' ∧ 105 ≤ c' ∧ ∀ i (h : i < b.length), w.cell? ⟨bk, o + i, none⟩ = some (bv b[i]) := by
    rcases HV.out with ⟨_, rfl⟩ | ⟨bk, o, c', he, hc, hm, hcell⟩
    · simp at hb
    · exact ⟨bk, o, c', by rw [he, hb], by omega, hcell⟩
  have h0 := hcell 0 (by omega)
  rw [Nat.add_zero] at h0
  unfold bv at h0
  rw [hpe] at HV ⊢
  have HC := Lib.hid hcell
  have HV := HV
  clear hcell hpe
  have q0 : (0 : Int) ≤ (b[0].toNat : Int) := by omega
  obtain ⟨x, hx⟩ : ∃ x : Int, x = (b[0].toNat : Int) := ⟨_, rfl⟩
  rw [← hx] at h0 q0
  have HX := Lib.hid hx
  have hhead : headErr b = if x = 72 then 0 else 20 := by
    unfold headErr
    rw [if_neg h1, if_neg h2, if_neg h3, hx]
    obtain ⟨a, t, rfl⟩ : ∃ a t, b = a :: t := by cases b with | nil => simp at hb | cons a t => exact ⟨a, t, rfl⟩
    simp only [List.head?_cons, List.getElem_cons_zero, Option.some.injEq]
    by_cases ha : a = byt 72
    · rw [if_pos ha, if_pos (by rw [ha]; exact byt_nat 72 (by decide) (by decide))]
    · rw [if_neg ha, if_neg (fun e => ha (by rw [← UInt8.toNat_inj]; have h := byt_nat 72 (by decide) (by decide); omega))]
  have HHD := Lib.hid hhead
  clear HX hx hhead hb h1 h2 h3 h1' h2' h3'
  by_cases hx72 : x = 72
  case neg =>
    have he : readH b = (zeroH, 20) := by have h : headErr b = 20 := (by rw [HHD.out, if_neg hx72]); unfold readH; rw [if_neg (by rw [h]; decide), h]
    rw [he]; clear he
    go_enter Try.func22, Try.ntmps22
    go_upto_region 1 with fail
    rw [zero_cells]
    refine wp_world (fun W => HA w.heap.size zeroH W ∧ Below w.heap.size w W) ⟨HA.new zeroH w, bl_alloc (Below.refl _ _) _⟩ ?_
    rintro W ⟨hA, hB⟩
    have HH := Lib.hid hA
    have HB := Lib.hid hB
    have hc0 : W.cell? ⟨bk, o, none⟩ = some (.int .u8 x) := by rw [hB.cell (p := ⟨bk, o, none⟩) (World.block_lt_of_cell? w _ h0)]; exact h0
    clear hA hB
    go_upto_region 6 with fail
    refine wp_region_lit ?_
    refine wpList_built rfl 28 #[] rfl [] (by simp) zeroH.cells.toArray built_head0 ?_
    refine wpList_store_row rfl 28 (.tmp 2) (.tmp 26) rfl w.heap.size zeroH.cells.toArray rfl rfl 28 _ HH.out.row (head_size _ zeroH_ok) rfl (all_oneCell_toArray zeroH.cells_one) ?_
    go_wp2_with fail
    exact bodyPost_ret (v := .tuple #[headV zeroH, .int .i64 20]) (results_row_tmp (p := 2) (u := 3) rfl _ _ w.heap.size zeroH.cells.toArray rfl (head_loads ⟨setRow_heap _ _ _ _ _ _ HH.out.row⟩ zeroH_ok)) rfl ⟨rfl, below_setRow HB.out (Nat.le_refl _)⟩
  have he : headErr b = 0 := by rw [HHD.out, if_pos hx72]
  have HER := Lib.hid he
  clear he
  subst hx72
  go_enter Try.func22, Try.ntmps22
  go_upto_region 1 with fail
  rw [zero_cells]
  refine wp_world (fun W => HA w.heap.size zeroH W ∧ Below w.heap.size w W) ⟨HA.new zeroH w, bl_alloc (Below.refl _ _) _⟩ ?_
  rintro W ⟨hA, hB⟩
  have HH := Lib.hid hA
  have HB := Lib.hid hB
  have hc0 : W.cell? ⟨bk, o, none⟩ = some (.int .u8 72) := by rw [hB.cell (p := ⟨bk, o, none⟩) (World.block_lt_of_cell? w _ h0)]; exact h0
  clear hA hB
  have hd1 : Rd W (.slice (some ⟨bk, o + 1, none⟩) 104 (c' - 1)) (b.drop 1) := by
    have h := HV.out
    have h2 : Rd w (.slice (some ⟨bk, o, none⟩) b.length c') b := by rw [HE.out]; exact h
    have h3 := h2.drop 1 (by rw [HE.out]; omega) ⟨bk, o + 1, none⟩ (fun _ => rfl) ⟨_, _, rfl⟩
    rw [HE.out] at h3
    exact h3.below HB.out
  have hbk : bk < W.heap.size := Nat.lt_of_lt_of_le (World.block_lt_of_cell? w _ h0) HB.out.size
  have HD1 := Lib.hid hd1
  have HBK := Lib.hid hbk
  clear hd1 hbk
  obtain ⟨i1, hi1⟩ : ∃ i, i = intF (num8 b 1) := ⟨_, rfl⟩
  obtain ⟨i2, hi2⟩ : ∃ i, i = intF (num8 b 9) := ⟨_, rfl⟩
  obtain ⟨i3, hi3⟩ : ∃ i, i = intF (num8 b 17) := ⟨_, rfl⟩
  obtain ⟨q1, hq1⟩ : ∃ i, i = (b.drop 25).take 32 := ⟨_, rfl⟩
  obtain ⟨q2, hq2⟩ : ∃ i, i = (b.drop 57).take 32 := ⟨_, rfl⟩
  obtain ⟨n1, hn1⟩ : ∃ i, i = num8 b 89 := ⟨_, rfl⟩
  obtain ⟨n2, hn2⟩ : ∃ i, i = num8 b 97 := ⟨_, rfl⟩
  have okp := parseH_ok' b HE.out
  have hP : parseH intF b = ⟨i1, i2, i3, q1, q2, n1, n2⟩ := by rw [hi1, hi2, hi3, hq1, hq2, hn1, hn2]; rfl
  rw [hP] at okp
  have z32 : zeros32.length = 32 := rfl
  have OK0 := Lib.hid (show (⟨0, 0, 0, zeros32, zeros32, 0, 0⟩ : Hd).ok from ⟨by simp only [isI64]; omega, by simp only [isI64]; omega, by simp only [isI64]; omega, z32, z32, by simp only [isU64]; omega, by simp only [isU64]; omega⟩)
  have OK1 := Lib.hid (show (⟨i1, 0, 0, zeros32, zeros32, 0, 0⟩ : Hd).ok from ⟨okp.ep, by simp only [isI64]; omega, by simp only [isI64]; omega, z32, z32, by simp only [isU64]; omega, by simp only [isU64]; omega⟩)
  have OK2 := Lib.hid (show (⟨i1, i2, 0, zeros32, zeros32, 0, 0⟩ : Hd).ok from ⟨okp.ep, okp.tk, by simp only [isI64]; omega, z32, z32, by simp only [isU64]; omega, by simp only [isU64]; omega⟩)
  have OK3 := Lib.hid (show (⟨i1, i2, i3, zeros32, zeros32, 0, 0⟩ : Hd).ok from ⟨okp.ep, okp.tk, okp.ct, z32, z32, by simp only [isU64]; omega, by simp only [isU64]; omega⟩)
  have OK4 := Lib.hid (show (⟨i1, i2, i3, q1, zeros32, 0, 0⟩ : Hd).ok from ⟨okp.ep, okp.tk, okp.ct, okp.root, z32, by simp only [isU64]; omega, by simp only [isU64]; omega⟩)
  have OK5 := Lib.hid (show (⟨i1, i2, i3, q1, q2, 0, 0⟩ : Hd).ok from ⟨okp.ep, okp.tk, okp.ct, okp.root, okp.log, by simp only [isU64]; omega, by simp only [isU64]; omega⟩)
  have OK6 := Lib.hid (show (⟨i1, i2, i3, q1, q2, n1, 0⟩ : Hd).ok from ⟨okp.ep, okp.tk, okp.ct, okp.root, okp.log, okp.r, by simp only [isU64]; omega⟩)
  have OK7 := Lib.hid (show (⟨i1, i2, i3, q1, q2, n1, n2⟩ : Hd).ok from ⟨okp.ep, okp.tk, okp.ct, okp.root, okp.log, okp.r, okp.s⟩)
  have L1 := Lib.hid okp.root
  have L2 := Lib.hid okp.log
  have E1 := Lib.hid hi1
  have E2 := Lib.hid hi2
  have E3 := Lib.hid hi3
  have E4 := Lib.hid hq1
  have E5 := Lib.hid hq2
  have E6 := Lib.hid hn1
  have E7 := Lib.hid hn2
  have HP := Lib.hid hP
  clear hi1 hi2 hi3 hq1 hq2 hn1 hn2 hP okp z32
  go_upto_region 9 with fail
  rw [zero_cells]
  refine wp_world (fun Y => RDI w Y b W.heap.size (W.heap.size + 1) 1 zeroH) ⟨(HH.out.alloc _).alloc _, bl_alloc (bl_alloc HB.out _) _, RRAt.below ⟨_, heap_alloc_new _ _, HD1.out.below (bl_alloc (Below.refl _ _) _), fun x m d e => by cases e; exact HBK.out⟩ (bl_alloc (Below.refl _ _) _), HH.out.lt, ⟨?_⟩, Nat.lt_succ_self _⟩ ?_
  · rw [show W.heap.size + 1 = (W.alloc (.cells #[.slice (some ⟨bk, o + 1, none⟩) 104 (c' - 1), .int .i64 0] 84)).heap.size by simp]
    exact heap_alloc_new _ _
  rintro Y0 hI
  have HI0 := Lib.hid hI
  generalize W.heap.size = g at *
  generalize hgh : g + 1 = gh at *
  clear hI hc0 h0 HH HB hgh
  go_wp2_with fail
  refine (rint_at b g 1 _ HI0.out.rdr (by rw [HE.out]; omega) hl).mono ?_
  rintro e x0 ⟨rfl, hr, hg⟩
  rw [← E1.out]
  have HI0b := Lib.hid (HI0.out.read hr hg)
  have cc := HI0b.out.box.c0
  have cf := frozen_of_row _ _ 0 _ _ HI0b.out.box.row
  clear hr hg
  go_upto_region 10 with fail
  refine wp_world (fun Y => RDI w Y b g gh 9 (⟨i1, 0, 0, zeros32, zeros32, 0, 0⟩ : Hd)) (HI0b.out.setC 0 _ (by unfold zeroH; rfl)) ?_
  rintro Y1 hI
  have HI1 := Lib.hid hI
  clear hI cc cf
  go_wp2_with fail
  refine (rint_at b g 9 _ HI1.out.rdr (by rw [HE.out]; omega) hl).mono ?_
  rintro e x1 ⟨rfl, hr, hg⟩
  rw [← E2.out]
  have HI1b := Lib.hid (HI1.out.read hr hg)
  have cc := HI1b.out.box.c1
  have cf := frozen_of_row _ _ 1 _ _ HI1b.out.box.row
  clear hr hg
  go_upto_region 11 with fail
  refine wp_world (fun Y => RDI w Y b g gh 17 (⟨i1, i2, 0, zeros32, zeros32, 0, 0⟩ : Hd)) (HI1b.out.setC 1 _ rfl) ?_
  rintro Y2 hI
  have HI2 := Lib.hid hI
  clear hI cc cf
  go_wp2_with fail
  refine (rint_at b g 17 _ HI2.out.rdr (by rw [HE.out]; omega) hl).mono ?_
  rintro e x2 ⟨rfl, hr, hg⟩
  rw [← E3.out]
  have HI2b := Lib.hid (HI2.out.read hr hg)
  have cc := HI2b.out.box.c2
  have cf := frozen_of_row _ _ 2 _ _ HI2b.out.box.row
  clear hr hg
  go_upto_region 12 with fail
  refine wp_world (fun Y => RDI w Y b g gh 25 (⟨i1, i2, i3, zeros32, zeros32, 0, 0⟩ : Hd)) (HI2b.out.setC 2 _ rfl) ?_
  rintro Y3 hI
  have HI3 := Lib.hid hI
  clear hI cc cf
  go_wp2_with fail
  refine (rhash_at b g 25 _ HI3.out.rdr (by rw [HE.out]; omega) hl).mono ?_
  rintro e x3 ⟨rfl, hr, hg⟩
  rw [← E4.out]
  have HI3b := Lib.hid (HI3.out.read hr hg)
  clear hr hg
  go_upto_region 13 with (refine wpList_store_part rfl 23 (.tmp 42) (.tmp 41) rfl gh 3 (bvs q1) rfl rfl 28 _ HI3b.out.box.row (by rw [List.size_toArray, Hd.cells_length _ OK3.out, bvs_length, L1.out]; decide) (by rw [arr32_info, bvs_length, L1.out]) (bvs_one _) ?_)
  rw [set_root _ OK3.out _ L1.out]
  refine wp_world (fun Y => RDI w Y b g gh 57 (⟨i1, i2, i3, q1, zeros32, 0, 0⟩ : Hd)) HI3b.out.setR ?_
  rintro Y4 hI
  have HI4 := Lib.hid hI
  clear hI
  go_wp2_with fail
  refine (rhash_at b g 57 _ HI4.out.rdr (by rw [HE.out]; omega) hl).mono ?_
  rintro e x4 ⟨rfl, hr, hg⟩
  rw [← E5.out]
  have HI4b := Lib.hid (HI4.out.read hr hg)
  clear hr hg
  go_upto_region 14 with (refine wpList_store_part rfl 23 (.tmp 45) (.tmp 44) rfl gh 35 (bvs q2) rfl rfl 28 _ HI4b.out.box.row (by rw [List.size_toArray, Hd.cells_length _ OK4.out, bvs_length, L2.out]; decide) (by rw [arr32_info, bvs_length, L2.out]) (bvs_one _) ?_)
  rw [set_log _ OK4.out _ L2.out]
  refine wp_world (fun Y => RDI w Y b g gh 89 (⟨i1, i2, i3, q1, q2, 0, 0⟩ : Hd)) HI4b.out.setR ?_
  rintro Y5 hI
  have HI5 := Lib.hid hI
  clear hI
  go_wp2_with fail
  refine (rnum_at b g 89 _ HI5.out.rdr (by rw [HE.out]; omega) hl).mono ?_
  rintro e x5 ⟨rfl, hr, hg⟩
  rw [← E6.out]
  have HI5b := Lib.hid (HI5.out.read hr hg)
  have cc := HI5b.out.box.c67 OK5.out
  have cf := frozen_of_row _ _ 67 _ _ HI5b.out.box.row
  clear hr hg
  go_upto_region 15 with fail
  refine wp_world (fun Y => RDI w Y b g gh 97 (⟨i1, i2, i3, q1, q2, n1, 0⟩ : Hd)) (HI5b.out.setC 67 _ (cells_r _ OK5.out _)) ?_
  rintro Y6 hI
  have HI6 := Lib.hid hI
  clear hI cc cf
  go_wp2_with fail
  refine (rnum_at b g 97 _ HI6.out.rdr (by rw [HE.out]; omega) hl).mono ?_
  rintro e x6 ⟨rfl, hr, hg⟩
  rw [← E7.out]
  have HI6b := Lib.hid (HI6.out.read hr hg)
  have cc := HI6b.out.box.c68 OK6.out
  have cf := frozen_of_row _ _ 68 _ _ HI6b.out.box.row
  clear hr hg
  go_upto_region 16 with fail
  refine wp_world (fun Y => RDI w Y b g gh 105 (⟨i1, i2, i3, q1, q2, n1, n2⟩ : Hd)) (HI6b.out.setC 68 _ (cells_s _ OK6.out _)) ?_
  rintro Y7 hI
  have HI7 := Lib.hid hI
  clear hI cc cf
  have OKP := Lib.hid (parseH_ok' b HE.out)
  have HI8 := Lib.hid (show RDI w Y7 b g gh 105 (parseH intF b) by rw [HP.out]; exact HI7.out)
  have hread : readH b = if rightF (parseH intF b) then (parseH intF b, 0) else (zeroH, 23) := by
    unfold readH
    rw [if_pos HER.out, right_near]
    by_cases h : rightF (parseH nearF b) = true
    · rw [if_pos h, if_pos h, parse_near b h]
    · rw [if_neg h, if_neg h]
  generalize parseH intF b = P at *
  have HRD := Lib.hid hread
  clear hread
  refine wp_region_lit ?_
  refine wpList_load_row rfl 28 (.tmp 5) rfl gh rfl 28 _ (0, 0) _ HI8.out.box.row Try.underlying28 rfl (head_size _ OKP.out) ?_
  go_wp2_with fail
  refine (rright_any P _).mono ?_
  rintro e w9 ⟨rfl, hb9⟩
  have HR9 := Lib.hid (HI8.out.res.below hb9)
  have HB9 := Lib.hid (bl_bl HI8.out.bel hb9)
  have HG9 := Lib.hid (HI8.out.box.below hb9)
  clear hb9
  cases hr : rightF P with
  | false =>
    have he : readH b = (zeroH, 23) := by rw [HRD.out, hr]; rfl
    have HEE := Lib.hid he
    clear he hr
    go_upto_region 17 with fail
    refine wp_region_lit ?_
    refine wpList_built rfl 28 #[] rfl [] (by simp) zeroH.cells.toArray built_head0 ?_
    refine wpList_store_row rfl 28 (.tmp 2) (.tmp 57) rfl w.heap.size zeroH.cells.toArray rfl rfl 28 _ HR9.out.row (head_size _ zeroH_ok) rfl (all_oneCell_toArray zeroH.cells_one) ?_
    go_wp2_with fail
    exact bodyPost_ret (v := .tuple #[headV zeroH, .int .i64 23]) (results_row_tmp (p := 2) (u := 3) rfl _ _ w.heap.size zeroH.cells.toArray rfl (head_loads ⟨setRow_heap _ _ _ _ _ _ HR9.out.row⟩ zeroH_ok)) rfl ⟨by rw [HEE.out], below_setRow HB9.out (Nat.le_refl _)⟩
  | true =>
    have he : readH b = (P, 0) := by rw [HRD.out, hr]; rfl
    have HEE := Lib.hid he
    clear he hr
    go_upto_region 18 with fail
    refine wp_region_lit ?_
    refine wpList_load_row rfl 28 (.tmp 5) rfl gh rfl 28 _ (0, 0) _ HG9.out.row Try.underlying28 rfl (head_size _ OKP.out) ?_
    refine wpList_store_row rfl 28 (.tmp 2) (.tmp 58) rfl w.heap.size P.cells.toArray rfl rfl 28 _ HR9.out.row (head_size _ OKP.out) (by rw [List.size_toArray, List.size_toArray, Hd.cells_length P OKP.out, Hd.cells_length zeroH zeroH_ok]) (all_oneCell_toArray P.cells_one) ?_
    go_wp2_with fail
    exact bodyPost_ret (v := .tuple #[headV P, .int .i64 0]) (results_row_tmp (p := 2) (u := 3) rfl _ _ w.heap.size P.cells.toArray rfl (head_loads ⟨setRow_heap _ _ _ _ _ _ HR9.out.row⟩ OKP.out)) rfl ⟨by rw [HEE.out], below_setRow HB9.out (Nat.le_refl _)⟩
end Go.Proofs.Yteapoemockimfaa
end

section
namespace Go.Proofs.Yteapoemockimfaa
set_option linter.unusedVariables false
set_option linter.unusedSimpArgs false
open Go.RowKit

theorem zeroCells_bytes (n : Nat) : (Builtin.zeroCells #[Value.int .u8 0] n).toList = bvs (List.replicate n 0) := by
  unfold bvs
  rw [List.map_replicate]
  simp only [Builtin.zeroCells, List.size_toArray, List.length_cons, List.length_nil, Nat.zero_add, Nat.mul_one, Nat.mod_one]
  simp [bv]
  exact List.eq_replicate_iff.2 ⟨by simp, by simp⟩
theorem append_zeros (w : World) (B : Nat) (ty : TypeId) {v : Value} {l : List UInt8} (hv : Own w B v l) (n : Nat) (h0 : 0 < n) (hl : l.length + n ≤ 1099511627776) (hB : B ≤ w.heap.size) :
    ∃ v' w', (Builtin.append_ #[29, 3] ty #[v, .int .i64 (n : Int)]).run Try.prog w = .ok v' w' ∧ Own w' B v' (l ++ List.replicate n 0) ∧ w.grownBy w' v.ownBlock := by
  obtain ⟨i0, hi, hz0, hz1, hz2⟩ := info_parts info8
  have ht := Try.underlying29
  have hti := Try.underlying3
  have hn : n ≠ 0 := by omega
  have hw : IntKind.i64.wrap (n : Int) = n := by rw [IntKind.wrap_i64]; omega
  have hneg : ¬ ((n : Int) < 0) := by omega
  have hb : ¬ ((281474976710656 : Int) < (n : Int) * (i0.bytes : Int)) := by rw [hz2]; omega
  have hlen : (bvs (List.replicate n (0 : UInt8))).length = n := by simp [bvs]
  have hzc : (Value.int .u8 0).cells = #[Value.int .u8 0] := rfl
  rcases hv.2 with ⟨rfl, hn0⟩ | ⟨g, cap, cur, rfl, hb', hg, hnc, hcm, hcs, htake⟩
  · obtain rfl : l = [] := List.eq_nil_of_length_eq_zero hn0
    have hr := run_grow_nil (P := Try.prog) w 29 3 ty 5 i0 (.int .u8 0) ht hti hi hz0 n h0 (by omega) (by simp at hl; omega) (by rw [hz2]; simp at hl; omega)
    refine ⟨_, _, hr, ?_, ⟨rfl, rfl, rfl, by simp, fun k hk _ => heap_alloc_old w.drew _ hk⟩⟩
    have hge := grownCap_ge w n 0 5
    refine ⟨by simp [bvs], .inr ⟨w.heap.size, grownCap w n 0 5, _, by simp, hB, heap_alloc_new w.drew _, by simp; omega, grownCap_le_maxLen w n 0 _ (by unfold maxLen; simp at hl; omega), ?_, ?_⟩⟩
    · simp only [Array.size_append, size_zeroCells, hzc, List.size_toArray, List.length_cons, List.length_nil]; omega
    · rw [Array.toList_append, hzc, zeroCells_bytes, zeroCells_bytes, List.nil_append, Nat.mul_one]
      rw [List.take_append_of_le_length (by simp [bvs])]
      exact List.take_of_length_le (by simp [bvs])
  · by_cases hroom : l.length + n ≤ cap
    · have hst := run_storeCells_at Try.prog g (l.length * i0.size) 5 (bvs (List.replicate n 0)) 0 cur w hg (by rw [hlen, hcs, hz1]; omega) (bvs_one _)
      simp only [Nat.add_zero] at hst
      have hr : (Builtin.append_ #[29, 3] ty #[.slice (some ⟨g, 0, none⟩) l.length cap, .int .i64 (n : Int)]).run Try.prog w = .ok (.slice (some ⟨g, 0, none⟩) (l.length + n) cap) (w.setRow g (cur.toList.take (l.length * i0.size) ++ bvs (List.replicate n 0) ++ cur.toList.drop (l.length * i0.size + (bvs (List.replicate n (0 : UInt8))).length)).toArray) := by
        have hs' : i0.size ≠ 0 := by rw [hz1]; decide
        simp [Builtin.append_, run_underlying ht, run_underlying hti, sizeOf, typeInfo, zeroValue, hi, hz0, asInt, asIntOf, hw, hneg, hn, hs', hb, hroom, Addr.add_lit, hzc, zeroCells_bytes, hst]
        intro h; exact absurd h (Nat.mul_ne_zero hn hs')
      refine ⟨_, _, hr, ?_, ⟨rfl, rfl, rfl, by simp [World.setRow], fun k _ hk => setRow_other w g k _ (fun e => hk (by simp [Value.ownBlock, e]))⟩⟩
      refine ⟨by simp [bvs], .inr ⟨g, cap, _, by simp, hb', setRow_heap w g cur _ _ _ hg, by simp; omega, hcm, ?_, ?_⟩⟩
      · simp only [List.size_toArray, List.length_append, List.length_take, List.length_drop, Array.length_toList, hlen, hz1]
        omega
      · have ht' : cur.toList.take (l.length * i0.size) = bvs l := by rw [hz1]; exact htake
        rw [ht', ← bvs_append]
        have e : (l ++ List.replicate n (0 : UInt8)).length * 1 = (bvs (l ++ List.replicate n (0 : UInt8))).length := by simp [bvs]
        rw [e]
        exact List.take_left
    · have hs' : i0.size ≠ 0 := by rw [hz1]; decide
      have holds : ∀ j u, (bvs l)[j]? = some u → w.cell? ((⟨g, 0, none⟩ : Addr).add j) = some u := World.ownsRow.cells hv (g := g) rfl
      have hfo := run_firstCells_some (P := Try.prog) w.drew i0.size l.length ⟨g, 0, none⟩ l.length cap (bvs l) (by rw [hz1]; simp [bvs]) (by simpa using holds)
      have h63' : ¬ (9223372036854775807 < ((l.length : Int) + (n : Int))) := by omega
      have h48' : ¬ (281474976710656 < Builtin.nextslicecap (l.length + n) cap * i0.bytes) := by
        have h := growslice_fits (need := l.length + n) (old := cap) (by omega) (show (l.length + n) * i0.bytes ≤ 140737488355328 by rw [hz2]; omega)
        omega
      have hge := grownCap_ge w (l.length + n) cap 5
      have hr : (Builtin.append_ #[29, 3] ty #[.slice (some ⟨g, 0, none⟩) l.length cap, .int .i64 (n : Int)]).run Try.prog w = .ok (.slice (some ⟨w.heap.size, 0, none⟩) (l.length + n) (grownCap w (l.length + n) cap 5))
          (w.drew.alloc (.cells ((bvs l).toArray ++ (bvs (List.replicate n 0)).toArray ++ Builtin.zeroCells #[Value.int .u8 0] (grownCap w (l.length + n) cap 5 - (l.length + n))) 5)) := by
        have hzz : Builtin.zeroCells #[Value.int .u8 0] n = (bvs (List.replicate n 0)).toArray := by rw [← zeroCells_bytes]
        simp [Builtin.append_, run_underlying ht, run_underlying hti, sizeOf, typeInfo, zeroValue, hi, hz0, asInt, asIntOf, hw, hneg, hn, hs', hb, hroom, h63', h48', Question.forced, hfo, newRow, grownCap, hzc, hzz, Nat.mul_ne_zero hn hs']
        refine congrArg (fun c => w.drew.alloc (.cells c 5)) ?_
        apply Array.ext'
        simp [List.append_assoc]
      refine ⟨_, _, hr, ?_, ⟨rfl, rfl, rfl, by simp, fun k hk _ => heap_alloc_old w.drew _ hk⟩⟩
      refine ⟨by simp [bvs], .inr ⟨w.heap.size, grownCap w (l.length + n) cap 5, _, by simp, hB, heap_alloc_new w.drew _, by simp; omega, grownCap_le_maxLen w _ _ _ (by unfold maxLen; omega), ?_, ?_⟩⟩
      · simp only [Array.size_append, size_zeroCells, List.size_toArray, List.length_cons, List.length_nil, hlen, bvs_length]; omega
      · rw [Array.toList_append, Array.toList_append, List.toList_toArray, List.toList_toArray, ← bvs_append]
        have e : (l ++ List.replicate n (0 : UInt8)).length * 1 = (bvs (l ++ List.replicate n (0 : UInt8))).length := by simp [bvs]
        rw [e]
        exact List.take_left
/-- The same as the walk meets it. -/
theorem wpList_append_zeros {w : World} {ops : Array Oper} {rest : List Oper} {o : Oper} {a : Act} {Q : Exit → Act → World → Prop} (hgd : o.guard = none) (s x : Operand)
    (ho : o.op = .call { callee := .builtin .append, args := #[s, x], argTypes := #[29, 3] })
    (B n : Nat) {v : Value} {l : List UInt8} (hs : a.eval s = v) (hx : a.eval x = .int .i64 (n : Int)) (hv : Own w B v l) (h0 : 0 < n) (hl : l.length + n ≤ 1099511627776) (hB : B ≤ w.heap.size)
    (h : ∀ v' w', Own w' B v' (l ++ List.replicate n 0) → w.grownBy w' v.ownBlock → wpList Try.prog ops Q rest (a.put o.dst v') w') : wpList Try.prog ops Q (o :: rest) a w :=
  wpList_plain hgd fun K hK => by
    obtain ⟨v', w', hr, h1, h2⟩ := append_zeros w B o.type hv n h0 hl hB
    unfold Oper.wp execOp
    simp only [ho, resolve, invoke, builtin, Sem.run_bind, Sem.run_pure, Result.andThen_ok, List.map_toArray, List.map_cons, List.map_nil, hs, hx, hr]
    exact hK _ _ (h v' w' h1 h2)
end Go.Proofs.Yteapoemockimfaa
end

section
namespace Go.Proofs.Yteapoemockimfaa
set_option linter.unusedVariables false
set_option linter.unusedSimpArgs false
open Go.RowKit

/-- append(v, m...) where v is full: the bytes read behind one another; what was there stays. -/
theorem append_full (w : World) (ty : TypeId) {b o : Nat} {l m : List UInt8} {u : Value} (hv : Rd w (.slice (some ⟨b, o, none⟩) l.length l.length) l) (hu : Rd w u m) (hl : l.length + m.length ≤ 1099511627776) :
    ∃ v' w', (Builtin.append_ #[29, 29] ty #[.slice (some ⟨b, o, none⟩) l.length l.length, u]).run Try.prog w = .ok v' w' ∧ Rd w' v' (l ++ m) ∧ Below w.heap.size w w' := by
  obtain ⟨i0, hi, hz0, hz1, hz2⟩ := info_parts info8
  have ht := Try.underlying29
  have hc1 : ∀ j v, (bvs l)[j]? = some v → w.cell? ((⟨b, o, none⟩ : Addr).add j) = some v := by
    rcases hv with ⟨hv, _⟩ | ⟨b', o', c', hv, _, _, hcell⟩
    · cases hv
    · simp only [Value.slice.injEq, Option.some.injEq, Addr.mk.injEq, and_true, true_and] at hv
      obtain ⟨⟨rfl, rfl⟩, _⟩ := hv
      intro j v hj
      have hjl : j < l.length := by have := (List.getElem?_eq_some_iff.1 hj).1; rwa [bvs_length] at this
      rw [addr_add, hcell j hjl, ← hj, bvs_get l j hjl]
  rcases hu with ⟨rfl, rfl⟩ | ⟨b2, o2, c2, rfl, hc, hm, hcell2⟩
  · refine ⟨_, w, ?_, by rw [List.append_nil]; exact hv, Below.refl _ _⟩
    simp [Builtin.append_, run_underlying ht, sizeOf, typeInfo, hi, Builtin.lenOf, Builtin.firstCells, storeCells]
  · by_cases h0 : m.length = 0
    · obtain rfl : m = [] := List.eq_nil_of_length_eq_zero h0
      refine ⟨_, w, ?_, by rw [List.append_nil]; exact hv, Below.refl _ _⟩
      simp [Builtin.append_, run_underlying ht, sizeOf, typeInfo, hi, Builtin.lenOf, Builtin.firstCells, storeCells, loadCells, loadCellsFrom]
    · have hr := run_append_grow (P := Try.prog) w 29 ty 5 i0 (.int .u8 0) ht hi hz0 ⟨b, o, none⟩ l.length l.length (bvs l) (by rw [hz1, bvs_length, Nat.mul_one]) hc1 ⟨b2, o2, none⟩ m.length c2 (bvs m) (by rw [hz1, bvs_length, Nat.mul_one])
        (fun j v hj => by
          have hjl : j < m.length := by have := (List.getElem?_eq_some_iff.1 hj).1; rwa [bvs_length] at this
          rw [addr_add, hcell2 j hjl, ← hj, bvs_get m j hjl]) (by omega) (by omega) (growslice_fits (by omega) (by rw [hz2]; omega))
      have hge := grownCap_ge w (l.length + m.length) l.length 5
      refine ⟨_, _, hr, ?_, (Below.refl w.heap.size w).drew.alloc (Nat.le_refl _) _⟩
      refine .inr ⟨w.heap.size, 0, grownCap w (l.length + m.length) l.length 5, by rw [List.length_append], by rw [List.length_append]; exact hge, grownCap_le_maxLen w _ _ _ (by unfold maxLen; omega), fun i hi2 => ?_⟩
      rw [Nat.zero_add]
      refine (cell_of_row _ w.drew.heap.size i _ _ _ (heap_alloc_new w.drew _)).trans ?_
      have e : ((bvs l).toArray ++ (bvs m).toArray : Array Value) = (bvs (l ++ m)).toArray := by rw [bvs_append]; simp
      rw [e, Array.getElem?_append_left (by simp only [List.size_toArray, bvs_length]; exact hi2), List.getElem?_toArray]
      exact bvs_get _ _ hi2
/-- The same as the walk meets it. -/
theorem wpList_append_full {w : World} {ops : Array Oper} {rest : List Oper} {o : Oper} {a : Act} {Q : Exit → Act → World → Prop} (hgd : o.guard = none) (s x : Operand)
    (ho : o.op = .call { callee := .builtin .append, args := #[s, x], argTypes := #[29, 29] })
    {b off : Nat} {u : Value} {l m : List UInt8} (hs : a.eval s = .slice (some ⟨b, off, none⟩) l.length l.length) (hx : a.eval x = u) (hv : Rd w (.slice (some ⟨b, off, none⟩) l.length l.length) l) (hu : Rd w u m) (hl : l.length + m.length ≤ 1099511627776)
    (h : ∀ v' w', Rd w' v' (l ++ m) → Below w.heap.size w w' → wpList Try.prog ops Q rest (a.put o.dst v') w') : wpList Try.prog ops Q (o :: rest) a w :=
  wpList_plain hgd fun K hK => by
    obtain ⟨v', w', hr, h1, h2⟩ := append_full w o.type hv hu hl
    unfold Oper.wp execOp
    simp only [ho, resolve, invoke, builtin, Sem.run_bind, Sem.run_pure, Result.andThen_ok, List.map_toArray, List.map_cons, List.map_nil, hs, hx, hr]
    exact hK _ _ (h v' w' h1 h2)
/-- A byte is written. -/
theorem rd_set {w : World} {g i c : Nat} {l : List UInt8} (h : Rd w (.slice (some ⟨g, 0, none⟩) l.length c) l) (hi : i < l.length) (z : UInt8) : Rd (w.setCell ⟨g, i, none⟩ (bv z)) (.slice (some ⟨g, 0, none⟩) l.length c) (l.set i z) := by
  rcases h with ⟨h, _⟩ | ⟨b, o, c', h, hc, hm, hcell⟩
  · cases h
  · simp only [Value.slice.injEq, Option.some.injEq, Addr.mk.injEq, and_true, true_and] at h
    obtain ⟨⟨rfl, rfl⟩, rfl⟩ := h
    refine .inr ⟨g, 0, c, by rw [List.length_set], by rw [List.length_set]; exact hc, hm, fun j hj => ?_⟩
    rw [List.length_set] at hj
    by_cases e : i = j
    · subst e
      rw [Nat.zero_add, List.getElem_set_self]
      exact World.cell?_setCell_same _ _ _ (by have := hcell i hi; rw [Nat.zero_add] at this; rw [this])
    · rw [Nat.zero_add, cell_far2 _ _ _ _ _ e, List.getElem_set_ne e, ← hcell j hj, Nat.zero_add]
end Go.Proofs.Yteapoemockimfaa
end

section
namespace Go.Proofs.Yteapoemockimfaa
set_option linter.unusedVariables false
set_option linter.unusedSimpArgs false
open Go.RowKit

theorem wpList_wanted {ops : Array Oper} {rest : List Oper} {o : Oper} {a : Act} {w : World} {Q : Exit → Act → World → Prop} (hw : Region.wanted o (yielded ops a.tmps) = true)
    (h : ∀ K : Act → World → Prop, (∀ a w, wpList Try.prog ops Q rest a w → K a w) → o.wp Try.prog a w K Q) : wpList Try.prog ops Q (o :: rest) a w :=
  wpList_step fun K hK => by simp only [hw, if_true]; exact h K hK
theorem wpList_load_head_g {ops : Array Oper} {rest : List Oper} {o : Oper} {a : Act} {w : World} {Q : Exit → Act → World → Prop} (hw : Region.wanted o (yielded ops a.tmps) = true) (x : Operand) (ho : o.op = .load 28 x)
    (g : Nat) (h : Hd) (hx : a.eval x = .pointer (some ⟨g, 0, none⟩)) (k : HA g h w) (ok : h.ok) (hh : wpList Try.prog ops Q rest (a.put o.dst (headV h)) w) : wpList Try.prog ops Q (o :: rest) a w :=
  wpList_wanted hw fun K hK => wp_load_row 28 x ho g hx 28 _ (0, 0) _ k.row Try.underlying28 rfl (head_size h ok) (hK _ _ hh)
theorem wpList_neq_head_g {ops : Array Oper} {rest : List Oper} {o : Oper} {a : Act} {w : World} {Q : Exit → Act → World → Prop} (hw : Region.wanted o (yielded ops a.tmps) = true) (x y : Operand) (T : TypeId) (ho : o.op = .binOp .neq 28 x y T)
    (h : Hd) (hx : a.eval x = headV h) (hy : a.eval y = headV h) (ok : h.ok) (hh : wpList Try.prog ops Q rest (a.put o.dst (.bool false)) w) : wpList Try.prog ops Q (o :: rest) a w :=
  wpList_wanted hw fun K hK => by
    unfold Oper.wp execOp
    simp only [ho, hx, hy, Sem.run_bind, eqGuard_head, neq_head h ok, Result.andThen_ok, Sem.run_pure]
    exact hK _ _ hh
theorem rdl_four (w : World) {u1 u2 u3 u4 : Value} {l1 l2 l3 l4 : List UInt8} (T : TypeId) (h1 : Rd w u1 l1) (h2 : Rd w u2 l2) (h3 : Rd w u3 l3) (h4 : Rd w u4 l4) :
    RdL (w.alloc (.cells #[u1, u2, u3, u4] T)) (.slice (some ⟨w.heap.size, 0, none⟩) 4 4) [l1, l2, l3, l4] := by
  refine .inr ⟨_, 0, 4, rfl, by simp, by decide, fun i hi => ?_⟩
  have hb := bl_alloc (Below.refl w.heap.size w) (.cells #[u1, u2, u3, u4] T)
  rw [Nat.zero_add, cell_of_row _ _ _ _ _ _ (heap_alloc_new _ _)]
  match i, hi with
  | 0, _ => exact ⟨_, rfl, h1.below hb⟩
  | 1, _ => exact ⟨_, rfl, h2.below hb⟩
  | 2, _ => exact ⟨_, rfl, h3.below hb⟩
  | 3, _ => exact ⟨_, rfl, h4.below hb⟩
theorem rd_marked (w : World) (b : UInt8) (fr : Nat × Nat) : Rd (w.alloc (.cells #[bv b] 5 fr)) (.slice (some ⟨w.heap.size, 0, none⟩) 1 1) [b] := by
  refine .inr ⟨_, 0, 1, rfl, Nat.le_refl _, by decide, fun i hi => ?_⟩
  have : i = 0 := by simp at hi; omega
  subst this
  rw [cell_of_row _ _ _ _ _ _ (heap_alloc_new _ _)]
  rfl
attribute [local irreducible] checkF msgF num8 checkH readH putH rightF pubF

set_option maxRecDepth 100000 in
set_option maxHeartbeats 3200000 in
theorem headReads_walk (v : Value) (m : List UInt8) (k : Int) (x : List UInt8) (at_ c hw : Int) (w : World) (w0 : Rd w v m) (w1 : (Lit.int .u8 k).wf = true) (w2 : x.length = 32) (w3 : (Lit.int .u16 at_).wf = true) (w4 : (Lit.int .u8 c).wf = true) (w5 : (Lit.int .u8 hw).wf = true) :
    Calls Try.prog 4 #[v, .int .u8 k, hashV x, .int .u16 at_, .int .u8 c, .int .u8 hw] w fun e w' => e = .returned (.bool true) ∧ Below w.heap.size w w' := by
  obtain ⟨k0, k1⟩ := bounds_u8 w1
  obtain ⟨at0, at1⟩ := bounds_u16 w3
  obtain ⟨c0, c1⟩ := bounds_u8 w4
  obtain ⟨hw0, hw1⟩ := bounds_u8 w5
  obtain ⟨p, cp, rfl⟩ := w0.shape
  show Calls _ _ #[.slice p m.length cp, .int .u8 k, .agg (bvs x).toArray, .int .u16 at_, .int .u8 c, .int .u8 hw] w _
  have HM := Lib.hid w0
  have HX := Lib.hid w2
  by_cases hl : 600 < m.length
  · have hl' : (600 : Int) < (m.length : Int) := by omega
    clear w0 w1 w2 w3 w4 w5
    go_enter Try.func4, Try.ntmps4
    go_wp2_with fail
    refine (known_any _).mono ?_
    rintro e w2 ⟨rfl, hb⟩
    have HB := Lib.hid (bl_bl (bl_alloc (Below.refl w.heap.size w) _) hb)
    clear hb
    go_wp2_with fail
    go_ret
    exact ⟨rfl, HB.out⟩
  have hl' : ¬ ((600 : Int) < (m.length : Int)) := by omega
  obtain ⟨h0, hh0⟩ : ∃ h : Hd, h = ⟨k, k, k % 10, x, zeros32, 0, 0⟩ := ⟨_, rfl⟩
  have ok0 : h0.ok := by
    rw [hh0]
    refine ⟨?_, ?_, ?_, w2, rfl, ?_, ?_⟩ <;> simp only [isI64, isU64] <;> omega
  have hbuilt := built_head4 k k (k % 10) x w2
  rw [← hh0] at hbuilt
  have ok := signH_ok 5 h0 ok0
  have HK0 := Lib.hid (rsignh_any 5 h0)
  have HBT := Lib.hid hbuilt
  have OK0 := Lib.hid ok0
  have hlen := putH_length _ ok
  have hbytes := rbytes_any (signH 5 h0)
  generalize signH 5 h0 = h at *
  have OK := Lib.hid ok
  have HBY := Lib.hid (fun w => hbytes w ok)
  generalize hb : putH h = b at *
  have HLN := Lib.hid hlen
  clear hbytes hb hlen ok hbuilt ok0 hh0 w0 w1 w2 w3 w4 w5
  have kc := fun (w : World) (C : Array Value) (n c : Nat) => Lib.run_convert_bytes_const (P := Try.prog) w 29 5 C n c Try.underlying29 Try.underlying5
  go_enter Try.func4, Try.ntmps4
  go_wp2_with fail
  refine (known_any _).mono ?_
  rintro e w1 ⟨rfl, hb0⟩
  have r8 : w1.heap[w.heap.size]? = some (.cells (bvs x).toArray 23 (0, 0)) := by
    rw [hb0.block _ (by simp)]
    exact heap_alloc_new _ _
  have HR8 := Lib.hid r8
  have HB1 := Lib.hid (bl_bl (bl_alloc (Below.refl w.heap.size w) _) hb0)
  clear hb0 r8
  go_wp2_with (first
    | refine wpList_load_row rfl 23 (.tmp 8) rfl w.heap.size rfl 23 _ (0, 0) _ HR8.out Try.underlying23 rfl (hash_size _ HX.out) ?_
    | refine wpList_built rfl 28 #[(0, .tmp 27), (1, .tmp 29), (2, .tmp 32), (3, .tmp 33)] rfl [(0, .int .i64 k), (1, .int .i64 k), (2, .int .i64 (k % 10)), (3, hashV x)] (by simp only [List.map_toArray, List.map_cons, List.map_nil]; rfl) h0.cells.toArray HBT.out ?_)
  refine (HK0.out _ (by omega) (by omega) OK0.out).mono ?_
  rintro e w2 ⟨rfl, hb2⟩
  have HB2 := Lib.hid (bl_bl HB1.out hb2)
  clear hb2
  go_wp2_with fail
  refine (HBY.out _).mono ?_
  rintro e w3 ⟨u, rfl, hu, hb3⟩
  obtain ⟨ba, bc, rfl⟩ := hu.rd.shape
  have HU := Lib.hid hu.rd
  have HB3 := Lib.hid (bl_bl HB2.out hb3)
  clear hu hb3
  rw [HLN.out] at HU ⊢
  go_upto_region 6 with fail
  go_wp2_with (at_builtin; refine wpList_append_bytes rfl (.const (.slice none 0 0)) (.tmp 37) rfl w3.heap.size (l := []) rfl rfl (Own.nil _ _) HU.out (by rw [HLN.out]; decide) (Nat.le_refl _) ?_)
  intro v4 w4 ho hg
  have hb4 : Below w3.heap.size w3 w4 := below_grown (Below.refl _ _) hg (fun k hk => by simp [Value.ownBlock] at hk)
  have HB4 := Lib.hid (bl_bl HB3.out hb4)
  have HB34 := Lib.hid hb4
  have HM3 := Lib.hid (HM.out.below HB3.out)
  have HU3 := Lib.hid HU.out
  have HU4 := Lib.hid (HU.out.below hb4)
  have HM4 := Lib.hid (HM.out.below HB4.out)
  obtain ⟨da, dc, rfl⟩ := ho.rd.shape
  have HO := Lib.hid ho
  clear ho hg hb4 HU
  rw [HLN.out] at HO ⊢
  obtain ⟨g4, cur, hda, hg34, hrow, hcap, hcs, htk⟩ : ∃ g cur, da = some ⟨g, 0, none⟩ ∧ w3.heap.size ≤ g ∧ w4.heap[g]? = some (.cells cur 5 (0, 0)) ∧ 105 ≤ dc ∧ cur.size = dc ∧ cur.toList.take 105 = bvs b := by
    rcases HO.out.2 with ⟨h, hn⟩ | ⟨g, cap, cur, he, hb, hg, hnc, hcm, hcs, htake⟩
    · rw [HLN.out] at hn; omega
    · simp only [Value.slice.injEq] at he
      obtain ⟨rfl, _, rfl⟩ := he
      rw [HLN.out] at hnc htake
      exact ⟨g, cur, rfl, hb, hg, hnc, by rw [hcs, Nat.mul_one], by rw [← htake, Nat.mul_one]⟩
  subst hda
  have HG34 := Lib.hid hg34
  have HROW := Lib.hid hrow
  have HTK := Lib.hid htk
  have HLEN := Lib.hid hcs
  clear hg34 hrow htk hcs
  obtain ⟨j, hj⟩ : ∃ j : Nat, at_ % 105 = (j : Int) := ⟨(at_ % 105).toNat, by omega⟩
  have hj5 : (j : Int) < 105 := by omega
  have hj0 : (0 : Int) ≤ (j : Int) := by omega
  obtain ⟨n, hn⟩ : ∃ n : Nat, 407 + c % 3 = (n : Int) := ⟨(407 + c % 3).toNat, by omega⟩
  have hn0 : 0 < n := by omega
  have hn9 : n < 410 := by omega
  have HJ := Lib.hid hj
  have HN := Lib.hid hn
  clear hj hn
  have hk : hw % 4 = 0 ∨ hw % 4 = 1 ∨ hw % 4 = 2 ∨ hw % 4 = 3 := by omega
  go_upto_block 0 with fail
  go_cut [14, 40] (fun s14 s40 wx => ∃ d : List UInt8, Rd wx s14 d ∧ d.length ≤ 1000 ∧ Rd wx (.slice ba 105 bc) b ∧ Rd wx (.slice p m.length cp) m ∧ Below w.heap.size w wx)
  case first =>
    rcases hk with hk | hk | hk | hk
    · have hj := HJ.out
      obtain ⟨y, hy⟩ : ∃ y : UInt8, w4.cell? ⟨g4, j, none⟩ = some (.int .u8 (y.toNat : Int)) := by
        have hjb : j < b.length := by rw [HLN.out]; omega
        refine ⟨b[j], ?_⟩
        rw [cell_of_row _ _ _ _ _ _ HROW.out]
        have h1 : (cur.toList.take 105)[j]? = some (bv b[j]) := by rw [HTK.out]; exact bvs_get _ _ hjb
        rw [List.getElem?_take_of_lt (by omega)] at h1
        simpa [bv] using h1
      have hf := frozen_of_row _ _ j _ _ HROW.out
      generalize (y.toNat : Int) = yy at hy
      go_wp2_with fail
      go_meet
      have hz := bounds_u8 (wf_bits .xor .u8 yy c)
      have hb5 := below_set HB34.out g4 j (.int .u8 (bits .xor .u8 yy c)) HG34.out
      have hr := HO.out.rd
      rw [show (105 : Nat) = b.length from HLN.out.symm] at hr
      have hs := rd_set hr (i := j) (by rw [HLN.out]; omega) (byt (bits .xor .u8 yy c))
      rw [bv_byt _ hz.1 (by omega), HLN.out] at hs
      exact ⟨_, hs, by rw [List.length_set, HLN.out]; decide, HU3.out.below hb5, HM3.out.below hb5, bl_bl HB3.out hb5⟩
    · have hj := HJ.out
      go_wp2_with fail
      go_meet
      have hr := HO.out.rd
      rw [show (105 : Nat) = b.length from HLN.out.symm] at hr
      exact ⟨_, hr.take j (by rw [HLN.out]; omega), by rw [List.length_take, HLN.out]; omega, HU4.out, HM4.out, HB4.out⟩
    · go_wp2_with (at_builtin; refine wpList_append_bytes rfl (.tmp 74) (.tmp 76) rfl w3.heap.size rfl rfl (Own.below HO.out (bl_alloc (Below.refl _ _) _)) (rd_one _ c (by omega) (by omega)) (by rw [HLN.out, List.length_cons, List.length_nil]; omega) (by have := HB34.out.size; simp; omega) ?_; intro v5 w5 ho5 hg5)
      go_meet
      have hb5 : Below w3.heap.size w3 w5 := below_grown (bl_alloc HB34.out _) hg5 (fun k hk => by have := HO.out.row k hk; omega)
      exact ⟨_, ho5.rd, by simp only [List.length_append, HLN.out, List.length_cons, List.length_nil]; omega, HU3.out.below hb5, HM3.out.below hb5, bl_bl HB3.out hb5⟩
    · have hn := HN.out
      go_wp2_with (at_builtin; refine wpList_append_zeros rfl (.tmp 41) (.tmp 48) rfl w3.heap.size n rfl rfl HO.out hn0 (by rw [HLN.out]; omega) HB34.out.size ?_; intro v5 w5 ho5 hg5)
      go_meet
      have hb5 : Below w3.heap.size w3 w5 := below_grown HB34.out hg5 (fun k hk => by have := HO.out.row k hk; omega)
      exact ⟨_, ho5.rd, by rw [List.length_append, HLN.out, List.length_replicate]; omega, HU3.out.below hb5, HM3.out.below hb5, bl_bl HB3.out hb5⟩
  case rest =>
    obtain ⟨d, hd, hdl, hub, hmb, hbb⟩ := hcut
    clear HM HM3 HU3 HU4 HM4 HO HROW HTK HLEN HB4 HB34 HB3 HB2 HB1 HR8 HG34
    obtain ⟨d1, d2, rfl⟩ := hd.shape
    have HD := Lib.hid hd
    have HU := Lib.hid hub
    have HM := Lib.hid hmb
    have HB := Lib.hid hbb
    have HDL := Lib.hid hdl
    clear hd hub hmb hbb hdl
    go_wp2_with (at_builtin; refine wpList_append_full rfl (.tmp 82) (.tmp 83) rfl (l := [72]) rfl rfl (rd_marked _ 72 (1, 2)) (HM.out.below (bl_alloc (Below.refl _ _) _)) (by simp only [List.length_cons, List.length_nil]; omega) ?_; intro v6 w6 hr6 hb6; obtain ⟨e1, e2, rfl⟩ := hr6.shape; have HV6 := Lib.hid hr6; have HW6 := Lib.hid (bl_bl (bl_alloc (Below.refl wc.heap.size wc) _) hb6); clear hr6 hb6)
    have hRL := rdl_four w6 29 (HM.out.below HW6.out) (HU.out.below HW6.out) (HD.out.below HW6.out) HV6.out
    have hBL := bl_alloc (bl_bl HB.out HW6.out) (.cells #[.slice p m.length cp, .slice ba 105 bc, .slice d1 d.length d2, .slice e1 ([72] ++ m).length e2] 29)
    obtain ⟨LS, hLS⟩ : ∃ LS, LS = [m, b, d, [72] ++ m] := ⟨_, rfl⟩
    have hlens : ∀ i (hi : i < LS.length), (LS[i]).length ≤ 1099511627776 := by
      subst hLS
      intro i hi
      have h1 := HLN.out
      have h2 := HDL.out
      match i, hi with
      | 0, _ => simp only [List.getElem_cons_zero]; omega
      | 1, _ => simp only [List.getElem_cons_succ, List.getElem_cons_zero]; omega
      | 2, _ => simp only [List.getElem_cons_succ, List.getElem_cons_zero]; omega
      | 3, _ => simp only [List.getElem_cons_succ, List.getElem_cons_zero, List.length_append, List.length_cons, List.length_nil]; omega
    have hL4 : LS.length = 4 := by rw [hLS]; rfl
    rw [← hLS] at hRL
    have HLENS := Lib.hid hlens
    have HL4 := Lib.hid hL4
    clear hlens hL4 hLS
    go_loopw [87] (fun v87 wr => ∃ i : Nat, v87 = .int .i64 i ∧ i ≤ 4 ∧ RdL wr (.slice (some ⟨w6.heap.size, 0, none⟩) 4 4) LS ∧ Below w.heap.size w wr) (fun v87 _ => 4 - (intOf v87).toNat)
    case atStart => exact ⟨0, rfl, by omega, hRL, hBL⟩
    case round =>
      obtain ⟨i, rfl, hi, hJ, hBr⟩ := hrel
      have HJ := Lib.hid hJ
      have HBr := Lib.hid hBr
      clear hJ hBr hRL hBL
      by_cases hlt : i < 4
      · obtain ⟨u, y, hcell, hy, hyl⟩ : ∃ u y, wr.cell? ⟨w6.heap.size, i, none⟩ = some u ∧ Rd wr u y ∧ y.length ≤ 1099511627776 := by
          rcases HJ.out with ⟨h, _⟩ | ⟨bb, oo, cc, h, _, _, hc⟩
          · cases h
          · simp only [Value.slice.injEq, Option.some.injEq, Addr.mk.injEq, and_true] at h
            obtain ⟨⟨rfl, rfl⟩, _, rfl⟩ := h
            obtain ⟨u, h1, h2⟩ := hc i (by rw [HL4.out]; exact hlt)
            rw [Nat.zero_add] at h1
            exact ⟨u, _, h1, h2, HLENS.out i (by rw [HL4.out]; exact hlt)⟩
        obtain ⟨f1, f2, rfl⟩ := hy.shape
        have HY := Lib.hid hy
        clear hy
        have hi0 : (0 : Int) ≤ (i : Int) := by omega
        have hi3 : (i : Int) < 4 := by omega
        have OKH := Lib.hid (readH_ok y)
        have HRD := Lib.hid (fun W (h : Rd W (.slice f1 y.length f2) y) => readh_any _ y W h hyl)
        have HRR := Lib.hid (fun W (h : Rd W (.slice f1 y.length f2) y) => rreadh_any _ y W h hyl)
        unfold GivesRead at HRD HRR
        generalize (readH y).1 = hd at *
        generalize (readH y).2 = er at *
        go_wp2_with fail
        refine (HRD.out _ HY.out).mono ?_
        rintro e w7 ⟨rfl, hb7⟩
        have HJ7 := Lib.hid (HJ.out.below hb7)
        have HY7 := Lib.hid (HY.out.below hb7)
        have HB7 := Lib.hid (bl_bl HBr.out hb7)
        clear hb7 hcell
        go_upto_region 19 with (refine wpList_store_row rfl 28 (.tmp 17) (.tmp 94) rfl w7.heap.size hd.cells.toArray rfl rfl 28 _ (heap_alloc_new _ _) (head_size _ OKH.out) (by rw [zero_cells, List.size_toArray, List.size_toArray, Hd.cells_length hd OKH.out, Hd.cells_length zeroH zeroH_ok]) (all_oneCell_toArray hd.cells_one) ?_)
        refine wp_world (fun Y => HA w7.heap.size hd Y ∧ RdL Y (.slice (some ⟨w6.heap.size, 0, none⟩) 4 4) LS ∧ Rd Y (.slice f1 y.length f2) y ∧ Below w.heap.size w Y) ⟨⟨setRow_heap _ _ _ _ _ _ (heap_alloc_new _ _)⟩, HJ7.out.below (below_fresh _ _ _), HY7.out.below (below_fresh _ _ _), bl_bl HB7.out (below_fresh _ _ _)⟩ ?_
        rintro Y ⟨h1, h2, h3, h4⟩
        have HA1 := Lib.hid h1
        have HJ1 := Lib.hid h2
        have HY1 := Lib.hid h3
        have HB1 := Lib.hid h4
        clear h1 h2 h3 h4
        go_wp2_with fail
        refine (HRR.out _ HY1.out).mono ?_
        rintro e w8 ⟨rfl, hb8⟩
        have HA8 := Lib.hid (HA1.out.below hb8)
        have HJ8 := Lib.hid (HJ1.out.below hb8)
        have HB8 := Lib.hid (bl_bl HB1.out hb8)
        clear hb8
        go_upto_region 20 with (refine wpList_store_row rfl 28 (.tmp 19) (.tmp 99) rfl w8.heap.size hd.cells.toArray rfl rfl 28 _ (heap_alloc_new _ _) (head_size _ OKH.out) (by rw [zero_cells, List.size_toArray, List.size_toArray, Hd.cells_length hd OKH.out, Hd.cells_length zeroH zeroH_ok]) (all_oneCell_toArray hd.cells_one) ?_)
        refine wp_world (fun Z => HA w7.heap.size hd Z ∧ HA w8.heap.size hd Z ∧ RdL Z (.slice (some ⟨w6.heap.size, 0, none⟩) 4 4) LS ∧ Below w.heap.size w Z) ⟨HA8.out.below (below_fresh _ _ _), ⟨setRow_heap _ _ _ _ _ _ (heap_alloc_new _ _)⟩, HJ8.out.below (below_fresh _ _ _), bl_bl HB8.out (below_fresh _ _ _)⟩ ?_
        rintro Z ⟨h1, h2, h3, h4⟩
        have HAA := Lib.hid h1
        have HAB := Lib.hid h2
        have HJ9 := Lib.hid h3
        have HB9 := Lib.hid h4
        clear h1 h2 h3 h4
        go_wp2_with (first
          | refine wpList_load_head_g (by rfl) (.tmp 17) rfl w7.heap.size hd rfl HAA.out OKH.out ?_
          | refine wpList_load_head_g (by rfl) (.tmp 19) rfl w8.heap.size hd rfl HAB.out OKH.out ?_
          | refine wpList_neq_head_g (by rfl) (.tmp 105) (.tmp 106) _ rfl hd rfl rfl OKH.out ?_)
        go_roundw
        case rel => exact ⟨i + 1, by go_num, by omega, HJ9.out, HB9.out⟩
        case measure => simp [intOf]; omega
      · obtain rfl : i = 4 := by omega
        go_wp2_with fail
        go_ret
        exact ⟨rfl, HBr.out⟩
end Go.Proofs.Yteapoemockimfaa
end
