/-
  The reference's Sum comes to the same hash.
-/
import Derived.Test.YteapoemockimfaaSumA
import Derived.Test.YteapoemockimfaaSpE
import Derived.Test.YteapoemockimfaaWrw
namespace Go.Proofs.Yteapoemockimfaa
set_option linter.unusedVariables false
set_option linter.unusedSimpArgs false
open Go.RowKit

/-- What the reference's Sum holds while it pads. -/
structure RSumA (w wr : World) (v : Value) (l : List UInt8) : Prop where
  res : ∃ z, wr.heap[w.heap.size]? = some (.cells z 23 (0, 0)) ∧ z.size = 32
  own : Own wr (w.heap.size + 1) v l
  bel : Below w.heap.size w wr
theorem RSumA.grown {w wr w' : World} {v v' : Value} {l l' : List UInt8} (h : RSumA w wr v l) (hg : wr.grownBy w' v.ownBlock) (ho : Own w' (w.heap.size + 1) v' l') : RSumA w w' v' l' := by
  have hr := h.own.row
  obtain ⟨z, hz, hz2⟩ := h.res
  have h1 := (Array.getElem?_eq_some_iff.1 hz).1
  refine ⟨⟨z, ?_, hz2⟩, ho, below_grown h.bel hg (fun k hk => by have := hr k hk; omega)⟩
  rw [hg.block _ h1 (fun e => by have := hr _ e.symm; omega)]; exact hz
theorem RSumA.below {w wr w' : World} {v : Value} {l : List UInt8} (h : RSumA w wr v l) (hb : Below wr.heap.size wr w') : RSumA w w' v l := by
  obtain ⟨z, hz, hz2⟩ := h.res
  have h1 := (Array.getElem?_eq_some_iff.1 hz).1
  exact ⟨⟨z, by rw [hb.block _ h1]; exact hz, hz2⟩, h.own.below hb, bl_bl h.bel hb⟩
theorem RSumA.size {w wr : World} {v : Value} {l : List UInt8} (h : RSumA w wr v l) : w.heap.size + 1 ≤ wr.heap.size := by
  obtain ⟨z, hz, _⟩ := h.res
  exact (Array.getElem?_eq_some_iff.1 hz).1

/-- What it holds while it absorbs: x is the world in which the state's block was made. -/
structure RSumB (w x wr : World) (s : St) (v : Value) (l : List UInt8) : Prop where
  old : RSumA w x v l
  st : wr.heap[x.heap.size]? = some (.cells s.cells 116 (0, 0))
  bel : Below x.heap.size x wr
theorem RSumB.rd {w x wr : World} {s : St} {v : Value} {l : List UInt8} (h : RSumB w x wr s v l) : Rd wr v l := h.old.own.rd.below h.bel
theorem RSumB.below {w x wr w' : World} {s : St} {v : Value} {l : List UInt8} (h : RSumB w x wr s v l) (hb : Below wr.heap.size wr w') : RSumB w x w' s v l :=
  ⟨h.old, by rw [hb.block _ (Array.getElem?_eq_some_iff.1 h.st).1]; exact h.st, bl_bl h.bel hb⟩
theorem RSumB.setS {w x wr : World} {s : St} {v : Value} {l : List UInt8} (h : RSumB w x wr s v l) (s' : St) : RSumB w x (wr.setRow x.heap.size s'.cells) s' v l :=
  ⟨h.old, setRow_heap _ _ _ _ _ _ h.st, below_setRow h.bel (Nat.le_refl _)⟩
theorem RSumB.setA {w x wr : World} {s : St} {v : Value} {l : List UInt8} (h : RSumB w x wr s v l) (n : Nat) (y : Int) : RSumB w x ((wr.drewN n).setCell ⟨x.heap.size, 0, none⟩ (.int .u64 y)) ⟨y, s.b, s.c, s.d, s.e⟩ v l := by
  refine ⟨h.old, ?_, (bl_drewN h.bel n).setCell (Nat.le_refl _) _⟩
  rw [← St.set_a]
  exact heap_setCell_same _ _ _ _ _ _ h.st
theorem RSumB.toO {w x wr : World} {s : St} {v : Value} {l : List UInt8} (h : RSumB w x wr s v l) (b : List UInt8) : SumO w (wr.alloc (.cells (bvs b).toArray 23)) x.heap.size wr.heap.size s b := by
  obtain ⟨z, hz, hz2⟩ := h.old.res
  have h1 := (Array.getElem?_eq_some_iff.1 hz).1
  have h2 := (Array.getElem?_eq_some_iff.1 h.st).1
  have h3 := h.bel.size
  exact ⟨⟨z, by rw [heap_alloc_old _ _ (by omega), h.bel.block _ h1]; exact hz, hz2⟩, by rw [heap_alloc_old _ _ h2]; exact h.st, heap_alloc_new _ _, bl_alloc (h.old.bel.trans (h.bel.mono h.old.bel.size)) _, h1, h2⟩

/-- The bytes laid so far, j of the k-th word's eight with them. -/
def outP (f : Nat → Int) (k j : Nat) : List UInt8 := (lay f k).take (8 * k) ++ ((numB (f k)).take j ++ (lay f k).drop (8 * k + j))
theorem outP_zero (f : Nat → Int) (k : Nat) : outP f k 0 = lay f k := by simp [outP]
theorem outP_eight (f : Nat → Int) (k : Nat) : outP f k 8 = lay f (k + 1) := by
  rw [show lay f (k + 1) = (lay f k).take (8 * k) ++ (numB (f k) ++ (lay f k).drop (8 * k + 8)) from rfl]
  unfold outP
  rw [List.take_of_length_le (Nat.le_of_eq (numB_length _))]
theorem outP_length (f : Nat → Int) (k j : Nat) (hk : k < 4) (hj : j ≤ 8) : (outP f k j).length = 32 := by
  simp only [outP, List.length_append, List.length_take, List.length_drop, lay_length f k (by omega), numB_length]; omega
theorem set_part {α : Type} (L M : List α) (b j : Nat) (hj : j < M.length) (hb : b + j < L.length) :
    (L.take b ++ (M.take j ++ L.drop (b + j))).set (b + j) M[j] = L.take b ++ (M.take (j + 1) ++ L.drop (b + (j + 1))) := by
  have h1 : (L.take b).length = b := by rw [List.length_take]; omega
  have h2 : (M.take j).length = j := by rw [List.length_take]; omega
  rw [List.set_append_right _ _ (by omega), h1, show b + j - b = j by omega, List.set_append_right _ _ (by omega), h2, Nat.sub_self, List.drop_eq_getElem_cons hb, List.set_cons_zero, List.take_succ_eq_append_getElem hj, List.append_assoc]
  rfl
theorem rd_cell {w : World} {g n c : Nat} {l : List UInt8} (h : Rd w (.slice (some ⟨g, 0, none⟩) n c) l) (j : Nat) (hj : j < l.length) : w.cell? ⟨g, j, none⟩ = some (.int .u8 (l[j].toNat : Int)) := by
  rcases h with ⟨h, _⟩ | ⟨b, o, c', h, _, _, hc⟩
  · simp at h
  · simp at h
    obtain ⟨⟨rfl, rfl⟩, rfl, rfl⟩ := h
    have := hc j hj
    rw [Nat.zero_add] at this
    exact this
theorem outP_step (f : Nat → Int) (k j : Nat) (hk : k < 4) (hj : j < (numB (f k)).length) :
    (bvs (outP f k j)).toArray.setIfInBounds (8 * k + j) (bv (numB (f k))[j]) = (bvs (outP f k (j + 1))).toArray := by
  have h := set_part (lay f k) (numB (f k)) (8 * k) j hj (by rw [lay_length f k (by omega)]; rw [numB_length] at hj; omega)
  rw [List.setIfInBounds_toArray]
  unfold outP bvs
  rw [← h, List.map_set]

set_option maxRecDepth 100000 in
set_option maxHeartbeats 4000000 in
theorem rsum_any (v : Value) (l : List UInt8) (w : World) (hv : Rd w v l) (hl : l.length ≤ 549755813888) :
    Calls Try.prog 65 #[v] w fun e w' => e = .returned (hashV (sumB l)) ∧ Below w.heap.size w w' := by
  obtain ⟨a, c, rfl⟩ := hv.shape
  have HV := Lib.hid hv
  clear hv
  go_enter Try.func65, Try.ntmps65
  go_upto_region 1 with fail
  refine wp_world (fun W => RSumA w W (.slice none 0 0) [] ∧ Rd W (.slice a l.length c) l) ⟨⟨⟨_, heap_alloc_new _ _, rfl⟩, Own.nil _ _, bl_alloc (Below.refl _ _) _⟩, HV.out.below (bl_alloc (Below.refl _ _) _)⟩ ?_
  rintro W ⟨hI, hV⟩
  have HI := Lib.hid hI
  have HV := Lib.hid hV
  clear hI hV
  go_wp2_with (first
    | (at_builtin; refine wpList_append_bytes rfl (.const (.slice none 0 0)) (.tmp 10) rfl (w.heap.size + 1) rfl rfl HI.out.own HV.out (by simp; omega) HI.out.size ?_; intro v1 W1 ho1 hg1; have HI1 := Lib.hid (HI.out.grown hg1 ho1); clear ho1 hg1)
    | (at_builtin; refine wpList_append_bytes rfl (.tmp 11) (.tmp 12) rfl (w.heap.size + 1) rfl rfl (HI1.out.own.alloc _) (rd_one _ 1 (by omega) (by omega)) (by simp; omega) (by have := HI1.out.size; simp; omega) ?_; intro v2 W2 ho2 hg2; have HI2 := Lib.hid ((HI1.out.below (bl_alloc (Below.refl _ _) _)).grown hg2 ho2); clear ho2 hg2))
  have HI3 := Lib.hid HI2.out
  clear HI HI1 HI2
  have hm : (l ++ [(1 : UInt8)]).length = l.length + 1 := by simp
  generalize hM : l ++ [(1 : UInt8)] = M at *
  have HM := Lib.hid hM
  have HM2 := Lib.hid hm
  clear hM hm
  go_loopw [3] (fun v0 wr => ∃ k : Nat, k ≤ zerosFor M.length ∧ RSumA w wr v0 (M ++ List.replicate k 0)) (fun v0 _ => (8 - lenV v0 % 8) % 8)
  case atStart => exact ⟨0, by omega, by have h := HI3.out; rw [byt_one, List.nil_append, HM.out] at h; rw [List.replicate_zero, List.append_nil]; exact h⟩
  case round =>
    obtain ⟨k, hk, hI⟩ := hrel
    have hlen : (M ++ List.replicate k (0 : UInt8)).length = M.length + k := by simp
    generalize hq : M ++ List.replicate k (0 : UInt8) = q at *
    obtain ⟨a0, c0, rfl⟩ := hI.own.rd.shape
    have HI := Lib.hid hI
    have HLEN := Lib.hid hlen
    have HQ := Lib.hid hq
    clear hI hq
    by_cases hlt : k < zerosFor M.length
    · have hne : ((q.length : Int) % 8 != 0) = true := by
        rw [bne_iff_ne, hlen]; unfold zerosFor at hlt; omega
      have hb : q.length ≤ 549755813900 := by
        rw [hlen]; have := HM2.out; unfold zerosFor at hlt; omega
      clear hlen
      go_wp2_with (at_builtin; refine wpList_append_bytes rfl (.tmp 18) (.tmp 19) rfl (w.heap.size + 1) rfl rfl (HI.out.own.alloc _) (rd_one _ 0 (by omega) (by omega)) (by simp only [List.length_cons, List.length_nil]; omega) (by have := HI.out.size; simp; omega) ?_; intro v2 W2 ho2 hg2; have HI2 := Lib.hid ((HI.out.below (bl_alloc (Below.refl _ _) _)).grown hg2 ho2); clear ho2 hg2)
      go_roundw
      case rel => exact ⟨k + 1, by omega, by rw [← rep_snoc, HQ.out]; exact HI2.out⟩
      case measure =>
        obtain ⟨a2, c2, h2⟩ := HI2.out.own.rd.shape
        rw [h2]
        have h3 := HLEN.out
        simp only [lenV, List.length_append, List.length_cons, List.length_nil] at *
        unfold zerosFor at hlt
        omega
    · have hk2 : k = zerosFor M.length := by omega
      have hne : ((q.length : Int) % 8 != 0) = false := by
        rw [bne_eq_false_iff_eq, hlen, hk2]; unfold zerosFor; omega
      have hpad : q = padB l := by rw [← HQ.out, hk2, HM2.out, ← HM.out]; rfl
      have hq8 := padB_mod l
      have hqb := padB_len l
      rw [← hpad] at hq8 hqb
      have HP := Lib.hid hpad
      have HQ8 := Lib.hid hq8
      clear hlen hpad hk2 hq8
      go_wp2_with fail
      refine (rperm_any ⟨8800401358850, 0, 0, 0, 0⟩ _).mono ?_
      rintro e w1 ⟨rfl, hb1⟩
      have HA := Lib.hid (HI.out.below hb1)
      clear hb1
      have hst := heap_alloc_new w1 (.cells #[.int .u64 0, .int .u64 0, .int .u64 0, .int .u64 0, .int .u64 0] 116)
      have HST := Lib.hid hst
      have hB := RSumB.mk HA.out (setRow_heap _ _ _ st0.cells _ _ hst) (below_setRow (bl_alloc (Below.refl _ _) _) (Nat.le_refl _))
      have HB := Lib.hid hB
      clear hst hB
      go_upto_region 5 with (refine wpList_store_row rfl 116 (.tmp 4) (.tmp 22) rfl w1.heap.size st0.cells rfl rfl 116 _ HST.out arr5_info (St.size_cells _).symm (St.one_cells _) ?_)
      simp only [Act.put]
      refine wp_world (fun W => RSumB w w1 W st0 (.slice a0 q.length c0) q) HB.out ?_
      intro X hX
      have ha0 : ∃ b0, a0 = some ⟨b0, 0, none⟩ := by
        rcases HI.out.own.2 with ⟨h, hn⟩ | ⟨g, cap, cur, h, _⟩
        · exfalso; have h3 := HLEN.out; rw [HM2.out] at h3; omega
        · simp at h; exact ⟨g, h.1⟩
      obtain ⟨b0, rfl⟩ := ha0
      have HX0 := Lib.hid hX
      clear hX HB HST
      go_wp2_with fail
      go_loopw [5] (fun v4 wr => ∃ n : Nat, v4 = .int .i64 ((8 * n : Nat) : Int) ∧ 8 * n ≤ q.length ∧ RSumB w w1 wr (absorbN q n) (.slice (some ⟨b0, 0, none⟩) q.length c0) q) (fun v4 _ => q.length - (intOf v4).toNat)
      case atStart => exact ⟨0, rfl, by omega, HX0.out⟩
      case round =>
        obtain ⟨n, rfl, hn, hJ⟩ := hrel
        have HJ := Lib.hid hJ
        clear hJ
        have hqb2 : q.length ≤ 549755813896 := by omega
        by_cases hlt : 8 * n < q.length
        · have hr := HJ.out.rd
          have hc0 : q.length ≤ c0 := by
            rcases hr with ⟨h, h'⟩ | ⟨b', o', c', h, hc, _⟩
            · simp at h
            · simp at h; omega
          have hge : 8 * n + 8 ≤ q.length := by have := HQ8.out; omega
          obtain ⟨j, hj⟩ : ∃ j, j = 8 * n := ⟨_, rfl⟩
          rw [← hj] at hlt hge
          rw [← hj]
          have HJJ := Lib.hid hj
          clear hj hr
          go_upto_region 8 with fail
          have hcS : wr.cell? ⟨w1.heap.size, 0, none⟩ = some (.int .u64 (absorbN q n).a) := by rw [cell_of_row _ _ _ _ _ _ HJ.out.st]; rfl
          have hfS : wr.frozen? ⟨w1.heap.size, 0, none⟩ = false := frozen_of_row _ _ _ _ _ HJ.out.st
          have hRD : Rd wr (.slice (some ⟨b0, j, none⟩) 8 (c0 - j)) ((q.drop j).take 8) := by
            have h1 := HJ.out.rd.drop j (by omega) ⟨b0, j, none⟩ (fun _ => by rw [Nat.zero_add]) ⟨_, _, rfl⟩
            rw [← List.length_drop] at h1
            exact h1.take 8 (by rw [List.length_drop]; omega)
          have hle8 : ((q.drop j).take 8).length = 8 := by rw [List.length_take, List.length_drop]; omega
          have HRD := Lib.hid hRD
          have HLE8 := Lib.hid hle8
          clear hRD hle8
          refine region_quiet_tail (C := fun w' => ∃ n, w' = wr.drewN n) 10 (by kernel_rfl) (by kernel_rfl) ⟨1, rfl⟩ ?_
          simp only [List.take_succ_cons, List.take_zero, List.drop_succ_cons, List.drop_zero]
          repeat (go_big_quiet_step ((go_at_call 64; exact Calls.quiet_of_same ((rword_any _ _ _ (Rd.drewN HRD.out _) HLE8.out).mono fun _ _ ⟨h, k⟩ => ⟨h, k.symm⟩))))
          refine wpQuiet_nil ?_
          intro W' hW'
          obtain ⟨nq, rfl⟩ := hW'
          go_upto_region 9 with fail
          refine wp_world (fun W => RSumB w w1 W ⟨bxor (absorbN q n).a (leNum ((q.drop j).take 8)), (absorbN q n).b, (absorbN q n).c, (absorbN q n).d, (absorbN q n).e⟩ (.slice (some ⟨b0, 0, none⟩) q.length c0) q) (HJ.out.setA _ _) ?_
          intro X hX
          have HX := Lib.hid hX
          clear hX hcS hfS
          refine wp_region_lit ?_
          refine wpList_load_row rfl 116 (.tmp 4) rfl w1.heap.size rfl 116 _ (0, 0) _ HX.out.st Try.underlying116 rfl arr5_info ?_
          go_wp2_with fail
          have hnext : permF ⟨bxor (absorbN q n).a (leNum ((q.drop j).take 8)), (absorbN q n).b, (absorbN q n).c, (absorbN q n).d, (absorbN q n).e⟩ = absorbN q (n + 1) := by rw [HJJ.out]; rfl
          have hperm := rperm_any ⟨bxor (absorbN q n).a (leNum ((q.drop j).take 8)), (absorbN q n).b, (absorbN q n).c, (absorbN q n).d, (absorbN q n).e⟩ X
          rw [hnext] at hperm
          clear hnext
          refine hperm.mono ?_
          rintro e w2 ⟨rfl, hb2⟩
          have HY := Lib.hid (HX.out.below hb2)
          clear hb2
          go_wp2_with (refine wpList_store_row rfl 116 (.tmp 4) (.tmp 40) rfl w1.heap.size (absorbN q (n + 1)).cells rfl rfl 116 _ HY.out.st arr5_info ((St.size_cells _).trans (St.size_cells _).symm) (St.one_cells _) ?_)
          go_roundw
          case rel => exact ⟨n + 1, by rw [HJJ.out]; go_num, by have := HJJ.out; omega, HY.out.setS _⟩
          case measure => simp [intOf]; omega
        · have hqn : 8 * n = q.length := by omega
          go_upto_region 10 with fail
          have hA : absorbN q n = absorb l := by
            have h := HP.out
            unfold absorb
            rw [← h, ← hqn, Nat.mul_div_cancel_left _ (by omega)]
          have HJ2 := Lib.hid (hA ▸ HJ.out)
          clear HJ hA
          have HO := Lib.hid (HJ2.out.toO (lay (fun k => (sq (absorb l) k).a) 0))
          clear HP HQ8 HQ HLEN hne hqb hn hlt hqn
          generalize hAA : absorb l = A at *
          have hok : A.ok := by rw [← hAA]; exact absorb_ok l
          have HOK := Lib.hid hok
          have HAA := Lib.hid hAA
          clear hok hAA
          go_upto_region 11 with fail
          generalize wr.heap.size = gO at HO ⊢
          generalize ((8 * n : Nat) : Int) = n4
          refine wp_world (fun W => SumO w W w1.heap.size gO A (lay (fun k => (sq A k).a) 0)) HO.out ?_
          intro X hX
          clear HO HJ2
          go_wp2_with fail
          go_loopw [7, 8] (fun v7 v8 wr => ∃ k : Nat, v7 = .int .i64 (k : Int) ∧ k ≤ 4 ∧ SumO w wr w1.heap.size gO (sq A (k - 1)) (lay (fun k => (sq A k).a) k)) (fun v7 _ _ => 4 - (intOf v7).toNat)
          case atStart => exact ⟨0, rfl, by omega, hX⟩
          case round =>
            obtain ⟨k, rfl, hk, hO⟩ := hrel
            have HO := Lib.hid hO
            clear hO
            by_cases hlt : k < 4
            · by_cases h0 : k = 0
              · subst h0
                go_upto_region 16 with fail
                refine wp_world (fun W => SumO w W w1.heap.size gO (sq A 0) (lay (fun k => (sq A k).a) 0)) HO.out ?_
                intro Y hY
                have HT := Lib.hid hY
                clear hY
                have hcS : Y.cell? ⟨w1.heap.size, 0, none⟩ = some (.int .u64 (sq A 0).a) := by rw [cell_of_row _ _ _ _ _ _ HT.out.st]; rfl
                obtain ⟨hb0, hb1⟩ := (sq_ok A HOK.out 0).1
                go_wp2_with fail
                refine (rnum_any _ _ hb0 hb1).mono ?_
                rintro e w2 ⟨u, rfl, hu, hb2⟩
                have hgt : ∀ g', u.ownBlock = some g' → gO < g' := fun g' hg' => Nat.lt_of_lt_of_le (Array.getElem?_eq_some_iff.1 HT.out.out).1 (hu.row g' hg')
                obtain ⟨g, cu, rfl⟩ : ∃ g cu, u = .slice (some ⟨g, 0, none⟩) 8 cu := by
                  rcases hu.2 with ⟨_, hn⟩ | ⟨g, cap, cur, h, _⟩
                  · cases hn
                  · exact ⟨g, cap, h⟩
                have hgO : g ≠ gO := Nat.ne_of_gt (hgt g rfl)
                have HG := Lib.hid hgO
                have HU := Lib.hid hu.rd
                have HY := Lib.hid (HT.out.below hb2)
                clear hcS hb0 hb1 hb2 hgt hu HT hgO
                go_wp2_with fail
                go_loopw [9] (fun v9 wr => ∃ j : Nat, v9 = .int .i64 (j : Int) ∧ j ≤ 8 ∧ wr = w2.setRow gO (bvs (outP (fun k => (sq A k).a) 0 j)).toArray) (fun v9 _ => 8 - (intOf v9).toNat)
                case atStart => exact ⟨0, rfl, by omega, by rw [outP_zero]; exact (setRow_self _ _ _ _ _ HY.out.out).symm⟩
                case round =>
                  obtain ⟨j, rfl, hj, hW⟩ := hrel
                  have hrow := setRow_heap w2 gO _ (bvs (outP (fun k => (sq A k).a) 0 j)).toArray _ _ HY.out.out
                  rw [← hW] at hrow
                  by_cases hlt2 : j < 8
                  · have hc1 : wr.cell? ⟨g, j, none⟩ = some (.int .u8 ((((numB (sq A 0).a)[j]'(by rw [numB_length]; exact hlt2)).toNat : Nat) : Int)) := by
                      rw [hW, cell_setRow_ne _ _ _ _ _ HG.out]
                      exact rd_cell HU.out j _
                    obtain ⟨x, hc2⟩ : ∃ x, wr.cell? ⟨gO, j, none⟩ = some x := by
                      rw [cell_of_row _ _ _ _ _ _ hrow]
                      exact ⟨_, Array.getElem?_eq_getElem (by rw [List.size_toArray, bvs_length, outP_length _ _ _ (by omega) (by omega)]; omega)⟩
                    have hf2 : wr.frozen? ⟨gO, j, none⟩ = false := frozen_of_row _ _ _ _ _ hrow
                    have HROW := Lib.hid hrow
                    have HW := Lib.hid hW
                    clear hrow hW
                    go_wp2_with fail
                    go_roundw
                    case rel =>
                      refine ⟨j + 1, by go_num, by omega, ?_⟩
                      rw [setCell_eq_setRow wr gO j _ _ _ _ HROW.out, HW.out, setRow_setRow]
                      have hst := outP_step (fun k => (sq A k).a) 0 j (by omega) (by rw [numB_length]; exact hlt2)
                      rw [show 8 * 0 + j = j by omega] at hst
                      exact congrArg _ hst
                    case measure => first | (simp [intOf]; done) | (simp [intOf]; omega)
                  · have hj8 : j = 8 := by omega
                    subst hj8
                    clear hrow
                    rw [outP_eight] at hW
                    have HW := Lib.hid hW
                    clear hW
                    go_wp2_with fail
                    go_roundw
                    case rel => exact ⟨0 + 1, by go_num, by omega, by rw [HW.out]; exact HY.out.setO _⟩
                    case measure => first | (simp [intOf]; done) | (simp [intOf]; omega)
              · have hk0 : 0 < k := by omega
                go_upto_region 15 with fail
                refine wp_region_lit ?_
                refine wpList_load_row rfl 116 (.tmp 4) rfl w1.heap.size rfl 116 _ (0, 0) _ HO.out.st Try.underlying116 rfl arr5_info ?_
                go_wp2_with fail
                have hperm := rperm_any (sq A (k - 1)) wr
                have hnext : permF (sq A (k - 1)) = sq A k := by obtain ⟨i, rfl⟩ : ∃ i, k = i + 1 := ⟨k - 1, by omega⟩; rfl
                rw [hnext] at hperm
                clear hnext
                refine hperm.mono ?_
                rintro e w2 ⟨rfl, hb2⟩
                have HY := Lib.hid (HO.out.below hb2)
                clear hb2 HO
                go_upto_region 16 with (refine wpList_store_row rfl 116 (.tmp 4) (.tmp 48) rfl w1.heap.size (sq A k).cells rfl rfl 116 _ HY.out.st arr5_info ((St.size_cells _).trans (St.size_cells _).symm) (St.one_cells _) ?_)
                refine wp_world (fun W => SumO w W w1.heap.size gO (sq A k) (lay (fun k => (sq A k).a) k)) (HY.out.setS _) ?_
                simp only [Act.put]
                intro Y hY
                have HT := Lib.hid hY
                clear hY
                have hcS : Y.cell? ⟨w1.heap.size, 0, none⟩ = some (.int .u64 (sq A k).a) := by rw [cell_of_row _ _ _ _ _ _ HT.out.st]; rfl
                obtain ⟨hb0, hb1⟩ := (sq_ok A HOK.out k).1
                go_wp2_with fail
                refine (rnum_any _ _ hb0 hb1).mono ?_
                rintro e w2 ⟨u, rfl, hu, hb2⟩
                have hgt : ∀ g', u.ownBlock = some g' → gO < g' := fun g' hg' => Nat.lt_of_lt_of_le (Array.getElem?_eq_some_iff.1 HT.out.out).1 (hu.row g' hg')
                obtain ⟨g, cu, rfl⟩ : ∃ g cu, u = .slice (some ⟨g, 0, none⟩) 8 cu := by
                  rcases hu.2 with ⟨_, hn⟩ | ⟨g, cap, cur, h, _⟩
                  · cases hn
                  · exact ⟨g, cap, h⟩
                have hgO : g ≠ gO := Nat.ne_of_gt (hgt g rfl)
                have HG := Lib.hid hgO
                have HU := Lib.hid hu.rd
                have HY := Lib.hid (HT.out.below hb2)
                clear hcS hb0 hb1 hb2 hgt hu HT hgO
                go_wp2_with fail
                go_loopw [9] (fun v9 wr => ∃ j : Nat, v9 = .int .i64 (j : Int) ∧ j ≤ 8 ∧ wr = w2.setRow gO (bvs (outP (fun k => (sq A k).a) k j)).toArray) (fun v9 _ => 8 - (intOf v9).toNat)
                case atStart => exact ⟨0, rfl, by omega, by rw [outP_zero]; exact (setRow_self _ _ _ _ _ HY.out.out).symm⟩
                case round =>
                  obtain ⟨j, rfl, hj, hW⟩ := hrel
                  have hrow := setRow_heap w2 gO _ (bvs (outP (fun k => (sq A k).a) k j)).toArray _ _ HY.out.out
                  rw [← hW] at hrow
                  by_cases hlt2 : j < 8
                  · have hc1 : wr.cell? ⟨g, j, none⟩ = some (.int .u8 ((((numB (sq A k).a)[j]'(by rw [numB_length]; exact hlt2)).toNat : Nat) : Int)) := by
                      rw [hW, cell_setRow_ne _ _ _ _ _ HG.out]
                      exact rd_cell HU.out j _
                    obtain ⟨x, hc2⟩ : ∃ x, wr.cell? ⟨gO, 8 * k + j, none⟩ = some x := by
                      rw [cell_of_row _ _ _ _ _ _ hrow]
                      exact ⟨_, Array.getElem?_eq_getElem (by rw [List.size_toArray, bvs_length, outP_length _ _ _ (by omega) (by omega)]; omega)⟩
                    have hf2 : wr.frozen? ⟨gO, 8 * k + j, none⟩ = false := frozen_of_row _ _ _ _ _ hrow
                    have hx : (8 * (k : Int) + (j : Int)).toNat = 8 * k + j := by omega
                    have HROW := Lib.hid hrow
                    have HW := Lib.hid hW
                    clear hrow hW
                    go_wp2_with fail
                    go_roundw
                    case rel =>
                      refine ⟨j + 1, by go_num, by omega, ?_⟩
                      rw [setCell_eq_setRow wr gO (8 * k + j) _ _ _ _ HROW.out, HW.out, setRow_setRow]
                      exact congrArg _ (outP_step (fun k => (sq A k).a) k j (by omega) (by rw [numB_length]; exact hlt2))
                    case measure => simp [intOf]; omega
                  · have hj8 : j = 8 := by omega
                    subst hj8
                    clear hrow
                    rw [outP_eight] at hW
                    have HW := Lib.hid hW
                    clear hW
                    go_wp2_with fail
                    go_roundw
                    case rel => exact ⟨k + 1, by go_num, by omega, by rw [HW.out]; exact HY.out.setO _⟩
                    case measure => simp [intOf]; omega
            · have hk4 : k = 4 := by omega
              subst hk4
              clear hk hlt
              go_upto_region 21 with fail
              refine wp_region_lit ?_
              refine wpList_load_row rfl 23 (.tmp 6) rfl gO rfl 23 _ (0, 0) _ HO.out.out Try.underlying23 rfl arr32_info ?_
              obtain ⟨z, hz, hz2⟩ := HO.out.res
              refine wpList_store_row rfl 23 (.tmp 2) (.tmp 65) rfl w.heap.size (bvs (lay (fun k => (sq A k).a) 4)).toArray rfl rfl 23 _ hz arr32_info (by rw [hz2, List.size_toArray, bvs_length, lay_length _ 4 (by omega)]) (bvs_all _) ?_
              go_wp2_with fail
              have hsum : lay (fun k => (sq A k).a) 4 = sumB l := by rw [lay_four]; unfold sumB; rw [HAA.out]; rfl
              rw [← hsum]
              refine bodyPost_ret (v := hashV (lay (fun k => (sq A k).a) 4)) (results_cell_row rfl _ _ w.heap.size 23 _ (0, 0) _ rfl (setRow_heap _ _ _ _ _ _ hz) Try.underlying23 rfl arr32_info) rfl ⟨rfl, below_setRow HO.out.bel (Nat.le_refl _)⟩
end Go.Proofs.Yteapoemockimfaa
