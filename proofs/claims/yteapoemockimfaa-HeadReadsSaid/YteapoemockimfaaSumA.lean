/-
  The sponge's Sum comes to the plain hash.
-/
import Derived.Test.YteapoemockimfaaSumL
import Derived.Laws.CopyOwn
namespace Go.Proofs.Yteapoemockimfaa
set_option linter.unusedVariables false
set_option linter.unusedSimpArgs false
open Go.RowKit

/-- What Sum's memory holds while it absorbs. -/
structure SumI (w wr : World) (gS : Nat) (s : St) (v : Value) (l : List UInt8) : Prop where
  res : ∃ z, wr.heap[w.heap.size]? = some (.cells z 23 (0, 0)) ∧ z.size = 32
  st : wr.heap[gS]? = some (.cells s.cells 116 (0, 0))
  own : Own wr (gS + 1) v l
  bel : Below w.heap.size w wr
  lt : w.heap.size < gS

theorem SumI.grown {w wr w' : World} {gS : Nat} {s : St} {v v' : Value} {l l' : List UInt8} (h : SumI w wr gS s v l) (hg : wr.grownBy w' v.ownBlock) (ho : Own w' (gS + 1) v' l') : SumI w w' gS s v' l' := by
  have hr := h.own.row
  have hne : ∀ k, k < gS + 1 → some k ≠ v.ownBlock := by
    intro k hk e; have := hr k e.symm; omega
  obtain ⟨z, hz, hz2⟩ := h.res
  have h1 := (Array.getElem?_eq_some_iff.1 hz).1
  have h2 := (Array.getElem?_eq_some_iff.1 h.st).1
  refine ⟨⟨z, ?_, hz2⟩, ?_, ho, below_grown h.bel hg (fun k hk => by have := hr k hk; have := h.lt; omega), h.lt⟩
  · rw [hg.block _ h1 (hne _ (by have := h.lt; omega))]; exact hz
  · rw [hg.block _ h2 (hne _ (by omega))]; exact h.st
theorem SumI.below {w wr w' : World} {gS : Nat} {s : St} {v : Value} {l : List UInt8} (h : SumI w wr gS s v l) (hb : Below wr.heap.size wr w') : SumI w w' gS s v l := by
  obtain ⟨z, hz, hz2⟩ := h.res
  have h1 := (Array.getElem?_eq_some_iff.1 hz).1
  have h2 := (Array.getElem?_eq_some_iff.1 h.st).1
  exact ⟨⟨z, by rw [hb.block _ h1]; exact hz, hz2⟩, by rw [hb.block _ h2]; exact h.st, h.own.below hb, bl_bl h.bel hb, h.lt⟩
theorem SumI.setS {w wr : World} {gS : Nat} {s : St} {v : Value} {l : List UInt8} (h : SumI w wr gS s v l) (s' : St) : SumI w (wr.setRow gS s'.cells) gS s' v l := by
  obtain ⟨z, hz, hz2⟩ := h.res
  exact ⟨⟨z, by rw [setRow_other _ _ _ _ (by have := h.lt; omega)]; exact hz, hz2⟩, setRow_heap _ _ _ _ _ _ h.st, own_setRow h.own (by omega) _, below_setRow h.bel (by have := h.lt; omega), h.lt⟩
theorem SumI.size {w wr : World} {gS : Nat} {s : St} {v : Value} {l : List UInt8} (h : SumI w wr gS s v l) : gS + 1 ≤ wr.heap.size := (Array.getElem?_eq_some_iff.1 h.st).1

theorem SumI.setA {w wr : World} {gS : Nat} {s : St} {v : Value} {l : List UInt8} (h : SumI w wr gS s v l) (n : Nat) (x : Int) : SumI w ((wr.drewN n).setCell ⟨gS, 0, none⟩ (.int .u64 x)) gS ⟨x, s.b, s.c, s.d, s.e⟩ v l := by
  obtain ⟨z, hz, hz2⟩ := h.res
  have hlt := h.lt
  refine ⟨⟨z, by rw [heap_far _ _ _ _ _ (by omega)]; exact hz, hz2⟩, ?_, ownsRow_setCell_below h.own (by show gS < gS + 1; omega) _, (bl_drewN h.bel n).setCell (by show w.heap.size ≤ gS; omega) _, h.lt⟩
  rw [← St.set_a]
  exact heap_setCell_same _ _ _ _ _ _ h.st

/-- The bytes of four words, laid one behind the other over zeros. -/
def lay (f : Nat → Int) : Nat → List UInt8
  | 0 => List.replicate 32 0
  | k + 1 => (lay f k).take (8 * k) ++ (numB (f k) ++ (lay f k).drop (8 * k + 8))
theorem lay_four (f : Nat → Int) : lay f 4 = numB (f 0) ++ numB (f 1) ++ numB (f 2) ++ numB (f 3) := rfl
theorem lay_length (f : Nat → Int) : ∀ k, k ≤ 4 → (lay f k).length = 32
  | 0, _ => rfl
  | k + 1, h => by
    have ih := lay_length f k (by omega)
    simp only [lay, List.length_append, List.length_take, List.length_drop, ih, numB_length]
    omega
theorem bvs_lay (f : Nat → Int) (k : Nat) : (bvs (lay f k)).toArray.toList.take (8 * k) ++ (bvs (numB (f k)) ++ (bvs (lay f k)).toArray.toList.drop (8 * k + (bvs (numB (f k))).length)) = bvs (lay f (k + 1)) := by
  rw [bvs_length, numB_length]
  simp only [lay, bvs, List.map_append, List.map_take, List.map_drop]

theorem permF_ok (s : St) : (permF s).ok := roundF_ok (permN s 11) _
theorem absorbN_ok (l : List UInt8) : ∀ n, (absorbN l n).ok
  | 0 => permF_ok _
  | n + 1 => permF_ok _
theorem absorb_ok (l : List UInt8) : (absorb l).ok := absorbN_ok _ _
theorem sq_ok (s : St) (h : s.ok) : ∀ n, (sq s n).ok
  | 0 => h
  | n + 1 => permF_ok _

theorem info8s : (Try.prog.info? 5).map (·.size) = some 1 := by kernel_rfl
theorem sqp_any (A : St) (k : Nat) (w : World) :
    Calls Try.prog 89 #[.agg (sq A k).cells] w fun e w' => e = .returned (.agg (sq A (k + 1)).cells) ∧ Below w.heap.size w w' := perm_any (sq A k) w
theorem num_fit (f : Nat → Int) (n : Int) (k : Nat) (h : k < 4) : 8 * k + (bvs (numB n)).length ≤ (bvs (lay f k)).toArray.size := by
  rw [bvs_length, numB_length, List.size_toArray, bvs_length, lay_length f k (by omega)]; omega
/-- copy of a word's bytes into their place. -/
theorem wpList_copy_num {w : World} {ops : Array Oper} {rest : List Oper} {o : Oper} {a : Act} {Q : Exit → Act → World → Prop} (hgd : o.guard = none) (d s : Operand)
    (ho : o.op = .call { callee := .builtin .copy, args := #[d, s], argTypes := #[29, 29] }) (f : Nat → Int) (k g off dLen dCap b : Nat) (hoff : off = 8 * k) (hk : k < 4) (hdl : 8 ≤ dLen)
    (hd : a.eval d = .slice (some ⟨g, off, none⟩) dLen dCap) (hs : a.eval s = .slice (some ⟨b, 0, none⟩) 8 8) {T T' : TypeId} {fr : Nat × Nat}
    (hg : w.heap[g]? = some (.cells (bvs (lay f k)).toArray T (0, 0))) (hb : w.heap[b]? = some (.cells (bvs (numB (f k))).toArray T' fr))
    (h : wpList Try.prog ops Q rest (a.put o.dst (.int .i64 8)) (w.setRow g (bvs (lay f (k + 1))).toArray)) : wpList Try.prog ops Q (o :: rest) a w := by
  subst hoff
  refine wpList_copy_own hgd d s 29 29 ho 5 Try.underlying29 info8s g (8 * k) dLen dCap _ 8 8 hd hs _ _ hg (bvs (numB (f k))) ?_ ?_ (num_fit _ _ k hk) (bvs_one _) ?_
  · rw [bvs_length, numB_length]; exact (Nat.min_eq_left hdl).symm
  · intro j v hv
    rw [addr_add, cell_of_row _ _ _ _ _ _ hb, Nat.zero_add]
    simpa using hv
  · rw [bvs_lay f k, bvs_length, numB_length]; exact h
theorem cell_setRow_ne (w : World) (g : Nat) (cs : Array Value) (b o : Nat) (h : b ≠ g) : (w.setRow g cs).cell? ⟨b, o, none⟩ = w.cell? ⟨b, o, none⟩ := by
  simp only [World.cell?, setRow_other _ _ _ _ h]
theorem cell_alloc_lt (w : World) (x : Obj) (b o : Nat) (h : b < w.heap.size) : (w.alloc x).cell? ⟨b, o, none⟩ = w.cell? ⟨b, o, none⟩ := by
  simp only [World.cell?, heap_alloc_old _ _ h]
/-- The same as one step of a region that draws its order. -/
theorem step_copy_num {w : World} {ops : Array Oper} {o : Oper} {a : Act} {K : Act → World → Prop} {Q : Exit → Act → World → Prop} {E : Prop} (hgd : o.guard = none) (d s : Operand)
    (ho : o.op = .call { callee := .builtin .copy, args := #[d, s], argTypes := #[29, 29] }) (f : Nat → Int) (k g off dLen dCap b : Nat) (hoff : off = 8 * k) (hk : k < 4) (hdl : 8 ≤ dLen)
    (hd : a.eval d = .slice (some ⟨g, off, none⟩) dLen dCap) (hs : a.eval s = .slice (some ⟨b, 0, none⟩) 8 8) {T T' : TypeId} {fr : Nat × Nat}
    (hg : w.heap[g]? = some (.cells (bvs (lay f k)).toArray T (0, 0))) (hb : w.heap[b]? = some (.cells (bvs (numB (f k))).toArray T' fr))
    (h : K (a.put o.dst (.int .i64 8)) (w.setRow g (bvs (lay f (k + 1))).toArray)) : if Region.wanted o (yielded ops a.tmps) = true then Oper.wp Try.prog o a w K Q else E := by
  subst hoff
  have hw : Region.wanted o (yielded ops a.tmps) = true := by simp [Region.wanted, hgd]
  rw [if_pos hw]
  have hrun := run_copy_row (P := Try.prog) w 29 29 o.type 5 g (8 * k) dLen dCap ⟨b, 0, none⟩ 8 8 _ _ (bvs (numB (f k))) Try.underlying29 info8s hg (by rw [bvs_length, numB_length]; exact (Nat.min_eq_left hdl).symm)
    (fun j v hv => by rw [addr_add, cell_of_row _ _ _ _ _ _ hb, Nat.zero_add]; simpa using hv) (num_fit _ _ k hk) (bvs_one _)
  rw [List.append_assoc, bvs_lay f k] at hrun
  unfold Oper.wp
  simp [execOp, ho, resolve, invoke, builtin, hd, hs, hrun, Result.andThen, bvs_length, numB_length]
  exact h
theorem bvs_all (l : List UInt8) : (bvs l).toArray.all (·.oneCell') = true := by
  rw [Array.all_eq_true_iff_forall_mem]
  intro u hu
  exact bvs_one l u (by simpa using hu)

/-- What Sum's memory holds while it is squeezed. -/
structure SumO (w wr : World) (gS gO : Nat) (s : St) (b : List UInt8) : Prop where
  res : ∃ z, wr.heap[w.heap.size]? = some (.cells z 23 (0, 0)) ∧ z.size = 32
  st : wr.heap[gS]? = some (.cells s.cells 116 (0, 0))
  out : wr.heap[gO]? = some (.cells (bvs b).toArray 23 (0, 0))
  bel : Below w.heap.size w wr
  lt : w.heap.size < gS
  lt2 : gS < gO

theorem SumO.below {w wr w' : World} {gS gO : Nat} {s : St} {b : List UInt8} (h : SumO w wr gS gO s b) (hb : Below wr.heap.size wr w') : SumO w w' gS gO s b := by
  obtain ⟨z, hz, hz2⟩ := h.res
  have h1 := (Array.getElem?_eq_some_iff.1 hz).1
  have h2 := (Array.getElem?_eq_some_iff.1 h.st).1
  have h3 := (Array.getElem?_eq_some_iff.1 h.out).1
  exact ⟨⟨z, by rw [hb.block _ h1]; exact hz, hz2⟩, by rw [hb.block _ h2]; exact h.st, by rw [hb.block _ h3]; exact h.out, bl_bl h.bel hb, h.lt, h.lt2⟩
theorem SumO.drewN {w wr : World} {gS gO : Nat} {s : St} {b : List UInt8} (h : SumO w wr gS gO s b) (n : Nat) : SumO w (wr.drewN n) gS gO s b := ⟨h.res, h.st, h.out, bl_drewN h.bel n, h.lt, h.lt2⟩
theorem SumO.drew {w wr : World} {gS gO : Nat} {s : St} {b : List UInt8} (h : SumO w wr gS gO s b) : SumO w wr.drew gS gO s b := ⟨h.res, h.st, h.out, bl_dr h.bel (Dr.drew (Dr.refl _)), h.lt, h.lt2⟩
theorem SumO.setS {w wr : World} {gS gO : Nat} {s : St} {b : List UInt8} (h : SumO w wr gS gO s b) (s' : St) : SumO w (wr.setRow gS s'.cells) gS gO s' b := by
  obtain ⟨z, hz, hz2⟩ := h.res
  have := h.lt
  have := h.lt2
  exact ⟨⟨z, by rw [setRow_other _ _ _ _ (by omega)]; exact hz, hz2⟩, setRow_heap _ _ _ _ _ _ h.st, by rw [setRow_other _ _ _ _ (by omega)]; exact h.out, below_setRow h.bel (by omega), h.lt, h.lt2⟩
theorem SumO.setO {w wr : World} {gS gO : Nat} {s : St} {b : List UInt8} (h : SumO w wr gS gO s b) (b' : List UInt8) : SumO w (wr.setRow gO (bvs b').toArray) gS gO s b' := by
  obtain ⟨z, hz, hz2⟩ := h.res
  have := h.lt
  have := h.lt2
  exact ⟨⟨z, by rw [setRow_other _ _ _ _ (by omega)]; exact hz, hz2⟩, by rw [setRow_other _ _ _ _ (by omega)]; exact h.st, setRow_heap _ _ _ _ _ _ h.out, below_setRow h.bel (by omega), h.lt, h.lt2⟩
theorem SumI.toO {w wr : World} {gS : Nat} {s : St} {v : Value} {l : List UInt8} (h : SumI w wr gS s v l) (b : List UInt8) : SumO w (wr.alloc (.cells (bvs b).toArray 23)) gS wr.heap.size s b := by
  obtain ⟨z, hz, hz2⟩ := h.res
  have h1 := (Array.getElem?_eq_some_iff.1 hz).1
  have h2 := (Array.getElem?_eq_some_iff.1 h.st).1
  exact ⟨⟨z, by rw [heap_alloc_old _ _ h1]; exact hz, hz2⟩, by rw [heap_alloc_old _ _ h2]; exact h.st, heap_alloc_new _ _, bl_alloc h.bel _, h.lt, h2⟩

/-- A slice's length, for a measure. -/
def lenV : Value → Nat
  | .slice _ n _ => n
  | _ => 0
theorem byt_one : byt 1 = 1 := rfl
theorem byt_zero : byt 0 = 0 := rfl
theorem rep_snoc (m : List UInt8) (k : Nat) : (m ++ List.replicate k 0) ++ [byt 0] = m ++ List.replicate (k + 1) 0 := by
  rw [List.append_assoc, byt_zero, List.replicate_succ']

set_option maxRecDepth 100000 in
set_option maxHeartbeats 4000000 in
theorem sum_any (v : Value) (l : List UInt8) (w : World) (hv : Rd w v l) (hl : l.length ≤ 549755813888) :
    Calls Try.prog 73 #[v] w fun e w' => e = .returned (hashV (sumB l)) ∧ Below w.heap.size w w' := by
  obtain ⟨a, c, rfl⟩ := hv.shape
  have HV := Lib.hid hv
  clear hv
  go_enter Try.func73, Try.ntmps73
  go_wp2_with fail
  refine (perm_any ⟨8800401358850, 0, 0, 0, 0⟩ _).mono ?_
  rintro e w1 ⟨rfl, hb⟩
  have hres := hb.block w.heap.size (by simp)
  rw [heap_alloc_new] at hres
  obtain ⟨z, hz, hz2⟩ : ∃ z, w1.heap[w.heap.size]? = some (.cells z 23 (0, 0)) ∧ z.size = 32 := ⟨_, hres, rfl⟩
  have HB := Lib.hid (bl_bl (bl_alloc (Below.refl w.heap.size w) _) hb)
  have hsz : w.heap.size < w1.heap.size := (Array.getElem?_eq_some_iff.1 hz).1
  have HS := Lib.hid hsz
  clear hb hres hsz
  have hst := heap_alloc_new w1 (.cells #[.int .u64 0, .int .u64 0, .int .u64 0, .int .u64 0, .int .u64 0] 116)
  have hset := setRow_heap _ _ _ st0.cells _ _ hst
  have hbel := below_setRow (g := w1.heap.size) (cs := st0.cells) (bl_alloc HB.out (.cells #[.int .u64 0, .int .u64 0, .int .u64 0, .int .u64 0, .int .u64 0] 116)) (Nat.le_of_lt HS.out)
  have hres2 : ((w1.alloc (.cells #[.int .u64 0, .int .u64 0, .int .u64 0, .int .u64 0, .int .u64 0] 116)).setRow w1.heap.size st0.cells).heap[w.heap.size]? = some (.cells z 23 (0, 0)) := by
    rw [setRow_other _ _ _ _ (by have := HS.out; omega), heap_alloc_old _ _ HS.out]; exact hz
  have hsize : ((w1.alloc (.cells #[.int .u64 0, .int .u64 0, .int .u64 0, .int .u64 0, .int .u64 0] 116)).setRow w1.heap.size st0.cells).heap.size = w1.heap.size + 1 := by simp [World.setRow]
  have HI := Lib.hid (SumI.mk (v := .slice none 0 0) (l := []) ⟨_, hres2, hz2⟩ hset (Own.nil _ _) hbel HS.out)
  have HST := Lib.hid hst
  have HSZ := Lib.hid hsize
  clear hst hset hbel hres2 hsize hz
  go_upto_region 2 with (refine wpList_store_row rfl 116 (.tmp 3) (.tmp 8) rfl w1.heap.size st0.cells rfl rfl 116 _ HST.out arr5_info (St.size_cells _).symm (St.one_cells _) ?_)
  refine wp_world (fun W => SumI w W w1.heap.size st0 (.slice none 0 0) [] ∧ Rd W (.slice a l.length c) l) ⟨HI.out, HV.out.below HI.out.bel⟩ ?_
  rintro W ⟨hI, hV⟩
  have HI := Lib.hid hI
  have HV := Lib.hid hV
  clear hI hV HST HSZ hz2 z HB
  go_wp2_with (first
    | (at_builtin; refine wpList_append_bytes rfl (.const (.slice none 0 0)) (.tmp 9) rfl (w1.heap.size + 1) rfl rfl HI.out.own HV.out (by simp; omega) HI.out.size ?_; intro v1 W1 ho1 hg1; have HI1 := Lib.hid (HI.out.grown hg1 ho1); clear ho1 hg1)
    | (at_builtin; refine wpList_append_bytes rfl (.tmp 10) (.tmp 11) rfl (w1.heap.size + 1) rfl rfl (HI1.out.own.alloc _) (rd_one _ 1 (by omega) (by omega)) (by simp; omega) (by have := HI1.out.size; simp; omega) ?_; intro v2 W2 ho2 hg2; have HI2 := Lib.hid ((HI1.out.below (bl_alloc (Below.refl _ _) _)).grown hg2 ho2); clear ho2 hg2))
  have HI3 := Lib.hid HI2.out
  clear HI HI1 HI2
  have hm : (l ++ [(1 : UInt8)]).length = l.length + 1 := by simp
  generalize hM : l ++ [(1 : UInt8)] = M at *
  have HM := Lib.hid hM
  have HM2 := Lib.hid hm
  clear hM hm
  go_loopw [0] (fun v0 wr => ∃ k : Nat, k ≤ zerosFor M.length ∧ SumI w wr w1.heap.size st0 v0 (M ++ List.replicate k 0)) (fun v0 _ => (8 - lenV v0 % 8) % 8)
  case atStart => exact ⟨0, by omega, by have h := HI3.out; rw [byt_one, List.nil_append, HM.out] at h; rw [List.replicate_zero, List.append_nil]; exact h⟩
  case round =>
    obtain ⟨k, hk, hI⟩ := hrel
    have hlen : (M ++ List.replicate k (0 : UInt8)).length = M.length + k := by simp
    generalize hq : M ++ List.replicate k (0 : UInt8) = q at *
    obtain ⟨a0, c0, rfl⟩ := hI.own.rd.shape
    have HI := Lib.hid hI
    have HLEN := Lib.hid hlen
    have HQ := Lib.hid hq
    clear hI hq
    by_cases hlt : k < zerosFor M.length
    · have hne : ((q.length : Int) % 8 != 0) = true := by
        rw [bne_iff_ne, hlen]; unfold zerosFor at hlt; omega
      have hb : q.length ≤ 549755813900 := by
        rw [hlen]; have := HM2.out; unfold zerosFor at hlt; omega
      clear hlen
      go_wp2_with (at_builtin; refine wpList_append_bytes rfl (.tmp 17) (.tmp 18) rfl (w1.heap.size + 1) rfl rfl (HI.out.own.alloc _) (rd_one _ 0 (by omega) (by omega)) (by simp only [List.length_cons, List.length_nil]; omega) (by have := HI.out.size; simp; omega) ?_; intro v2 W2 ho2 hg2; have HI2 := Lib.hid ((HI.out.below (bl_alloc (Below.refl _ _) _)).grown hg2 ho2); clear ho2 hg2)
      go_roundw
      case rel => exact ⟨k + 1, by omega, by rw [← rep_snoc, HQ.out]; exact HI2.out⟩
      case measure =>
        obtain ⟨a2, c2, h2⟩ := HI2.out.own.rd.shape
        rw [h2]
        have h3 := HLEN.out
        simp only [lenV, List.length_append, List.length_cons, List.length_nil] at *
        unfold zerosFor at hlt
        omega
    · have hk2 : k = zerosFor M.length := by omega
      have hne : ((q.length : Int) % 8 != 0) = false := by
        rw [bne_eq_false_iff_eq, hlen, hk2]; unfold zerosFor; omega
      have hpad : q = padB l := by rw [← HQ.out, hk2, HM2.out, ← HM.out]; rfl
      have hq8 := padB_mod l
      have hqb := padB_len l
      rw [← hpad] at hq8 hqb
      have HP := Lib.hid hpad
      have HQ8 := Lib.hid hq8
      clear hlen hpad hk2 hq8
      go_wp2_with fail
      have ha0 : ∃ b0, a0 = some ⟨b0, 0, none⟩ := by
        rcases HI.out.own.2 with ⟨h, hn⟩ | ⟨g, cap, cur, h, _⟩
        · exfalso; have h3 := HLEN.out; rw [HM2.out] at h3; omega
        · simp at h; exact ⟨g, h.1⟩
      obtain ⟨b0, rfl⟩ := ha0
      go_loopw [4] (fun v4 wr => ∃ n : Nat, v4 = .int .i64 ((8 * n : Nat) : Int) ∧ 8 * n ≤ q.length ∧ SumI w wr w1.heap.size (absorbN q n) (.slice (some ⟨b0, 0, none⟩) q.length c0) q) (fun v4 _ => q.length - (intOf v4).toNat)
      case atStart => exact ⟨0, rfl, by omega, HI.out⟩
      case round =>
        obtain ⟨n, rfl, hn, hJ⟩ := hrel
        have HJ := Lib.hid hJ
        clear hJ
        have hqb2 : q.length ≤ 549755813896 := by omega
        by_cases hlt : 8 * n < q.length
        · have hr := HJ.out.own.rd
          have hc0 : q.length ≤ c0 := by
            rcases hr with ⟨h, h'⟩ | ⟨b', o', c', h, hc, _⟩
            · simp at h
            · simp at h; omega
          have hge : 8 * n + 8 ≤ q.length := by have := HQ8.out; omega
          obtain ⟨j, hj⟩ : ∃ j, j = 8 * n := ⟨_, rfl⟩
          rw [← hj] at hlt hge
          rw [← hj]
          have HJJ := Lib.hid hj
          clear hj hr
          go_upto_region 8 with fail
          have hcS : wr.cell? ⟨w1.heap.size, 0, none⟩ = some (.int .u64 (absorbN q n).a) := by rw [cell_of_row _ _ _ _ _ _ HJ.out.st]; rfl
          have hfS : wr.frozen? ⟨w1.heap.size, 0, none⟩ = false := frozen_of_row _ _ _ _ _ HJ.out.st
          have hRD : Rd wr (.slice (some ⟨b0, j, none⟩) 8 (c0 - j)) ((q.drop j).take 8) := by
            have h1 := HJ.out.own.rd.drop j (by omega) ⟨b0, j, none⟩ (fun _ => by rw [Nat.zero_add]) ⟨_, _, rfl⟩
            rw [← List.length_drop] at h1
            exact h1.take 8 (by rw [List.length_drop]; omega)
          have hle8 : ((q.drop j).take 8).length ≤ 8 := by rw [List.length_take]; omega
          have HRD := Lib.hid hRD
          have HLE8 := Lib.hid hle8
          clear hRD hle8
          refine region_quiet_tail (C := fun w' => ∃ n, w' = wr.drewN n) 10 (by kernel_rfl) (by kernel_rfl) ⟨1, rfl⟩ ?_
          simp only [List.take_succ_cons, List.take_zero, List.drop_succ_cons, List.drop_zero]
          repeat (go_big_quiet_step ((go_at_call 90; exact Calls.quiet_of_same ((word_any _ _ _ (Rd.drewN HRD.out _) HLE8.out).mono fun _ _ ⟨h, k⟩ => ⟨h, k.symm⟩))))
          refine wpQuiet_nil ?_
          intro W' hW'
          obtain ⟨nq, rfl⟩ := hW'
          go_upto_region 9 with fail
          refine wp_world (fun W => SumI w W w1.heap.size ⟨bxor (absorbN q n).a (leNum ((q.drop j).take 8)), (absorbN q n).b, (absorbN q n).c, (absorbN q n).d, (absorbN q n).e⟩ (.slice (some ⟨b0, 0, none⟩) q.length c0) q) (HJ.out.setA _ _) ?_
          intro X hX
          have HX := Lib.hid hX
          clear hX hcS hfS
          refine wp_region_lit ?_
          refine wpList_load_row rfl 116 (.tmp 3) rfl w1.heap.size rfl 116 _ (0, 0) _ HX.out.st Try.underlying116 rfl arr5_info ?_
          go_wp2_with fail
          have hnext : permF ⟨bxor (absorbN q n).a (leNum ((q.drop j).take 8)), (absorbN q n).b, (absorbN q n).c, (absorbN q n).d, (absorbN q n).e⟩ = absorbN q (n + 1) := by rw [HJJ.out]; rfl
          have hperm := perm_any ⟨bxor (absorbN q n).a (leNum ((q.drop j).take 8)), (absorbN q n).b, (absorbN q n).c, (absorbN q n).d, (absorbN q n).e⟩ X
          rw [hnext] at hperm
          clear hnext
          refine hperm.mono ?_
          rintro e w2 ⟨rfl, hb2⟩
          have HY := Lib.hid (HX.out.below hb2)
          clear hb2
          go_wp2_with (refine wpList_store_row rfl 116 (.tmp 3) (.tmp 37) rfl w1.heap.size (absorbN q (n + 1)).cells rfl rfl 116 _ HY.out.st arr5_info ((St.size_cells _).trans (St.size_cells _).symm) (St.one_cells _) ?_)
          go_roundw
          case rel => exact ⟨n + 1, by rw [HJJ.out]; go_num, by have := HJJ.out; omega, HY.out.setS _⟩
          case measure => simp [intOf]; omega
        · have hqn : 8 * n = q.length := by omega
          go_upto_region 10 with fail
          have hA : absorbN q n = absorb l := by
            have h := HP.out
            unfold absorb
            rw [← h, ← hqn, Nat.mul_div_cancel_left _ (by omega)]
          have HJ2 := Lib.hid (hA ▸ HJ.out)
          clear HJ hA
          have HO := Lib.hid (HJ2.out.toO (lay (fun k => (sq (absorb l) k).a) 0))
          clear HP HQ8 HQ HLEN hne hqb hn hlt hqn
          generalize hAA : absorb l = A at *
          have hok : A.ok := by rw [← hAA]; exact absorb_ok l
          have HOK := Lib.hid hok
          have HAA := Lib.hid hAA
          clear hok hAA
          go_upto_region 11 with fail
          generalize wr.heap.size = gO at HO ⊢
          generalize ((8 * n : Nat) : Int) = n4
          refine wp_world (fun W => SumO w W w1.heap.size gO A (lay (fun k => (sq A k).a) 0)) HO.out ?_
          intro X hX
          clear HO HJ2
          go_wp2_with fail
          go_loopw [6] (fun v6 wr => ∃ k : Nat, v6 = .int .i64 ((8 * k : Nat) : Int) ∧ k ≤ 4 ∧ SumO w wr w1.heap.size gO (sq A (k - 1)) (lay (fun k => (sq A k).a) k)) (fun v6 _ => 32 - (intOf v6).toNat)
          case atStart => exact ⟨0, rfl, by omega, hX⟩
          case round =>
            obtain ⟨k, rfl, hk, hO⟩ := hrel
            have HO := Lib.hid hO
            clear hO
            by_cases hlt : k < 4
            · obtain rfl | rfl | rfl | rfl : k = 0 ∨ k = 1 ∨ k = 2 ∨ k = 3 := by omega
              · clear hk hlt
                go_upto_region 16 with fail
                refine wp_world (fun W => SumO w W w1.heap.size gO (sq A 0) (lay (fun k => (sq A k).a) 0)) HO.out ?_
                intro Y hY
                have HT := Lib.hid hY
                clear hY HO
                have hcS : Y.cell? ⟨w1.heap.size, 0, none⟩ = some (.int .u64 (sq A 0).a) := by rw [cell_of_row _ _ _ _ _ _ HT.out.st]; rfl
                obtain ⟨hb0, hb1⟩ := (sq_ok A HOK.out 0).1
                have hLT : w1.heap.size < Y.heap.size := (Array.getElem?_eq_some_iff.1 HT.out.st).1
                have hNE : w1.heap.size ≠ gO := Nat.ne_of_lt HT.out.lt2
                go_region_held3 (fun w' => w'.cell? ⟨w1.heap.size, 0, none⟩ = some (.int .u64 (sq A 0).a)) (first | exact hcS | exact (cell_alloc_lt Y _ _ _ hLT).trans hcS | exact (cell_setRow_ne _ _ _ _ _ hNE).trans ((cell_alloc_lt Y _ _ _ hLT).trans hcS)) (first | (go_at_call 30; refine (num_any _ _ hb0 hb1).mono ?_; rintro e w2 ⟨rfl, rfl⟩; have hY2 := (HT.out.below (bl_alloc (Below.refl _ _) (.cells (bvs (numB (sq A 0).a)).toArray 5))).drew; have HT2 := Lib.hid hY2; have hnb : (Y.alloc (.cells (bvs (numB (sq A 0).a)).toArray 5)).drew.heap[Y.heap.size]? = some (.cells (bvs (numB (sq A 0).a)).toArray 5) := heap_alloc_new Y _; have HNB := Lib.hid hnb; clear hnb hY2) | (refine step_copy_num rfl (.tmp 47) (.tmp 50) rfl (fun k => (sq A k).a) 0 gO 0 32 32 Y.heap.size rfl (by omega) (by omega) rfl rfl HT2.out.out HNB.out ?_))
                go_wp2_with fail
                go_roundw
                case rel => exact ⟨1, rfl, by omega, HT2.out.setO _⟩
                case measure => simp [intOf]
              · clear hk hlt
                go_upto_region 15 with fail
                refine wp_region_lit ?_
                refine wpList_load_row rfl 116 (.tmp 3) rfl w1.heap.size rfl 116 _ (0, 0) _ HO.out.st Try.underlying116 rfl arr5_info ?_
                go_wp2_with fail
                refine (sqp_any A 0 wr).mono ?_
                rintro e w2 ⟨rfl, hb2⟩
                have HY := Lib.hid (HO.out.below hb2)
                clear hb2 HO
                go_upto_region 16 with (refine wpList_store_row rfl 116 (.tmp 3) (.tmp 45) rfl w1.heap.size (sq A 1).cells rfl rfl 116 _ HY.out.st arr5_info ((St.size_cells _).trans (St.size_cells _).symm) (St.one_cells _) ?_)
                refine wp_world (fun W => SumO w W w1.heap.size gO (sq A 1) (lay (fun k => (sq A k).a) 1)) (HY.out.setS _) ?_
                simp only [Act.put]
                intro Y hY
                have HT := Lib.hid hY
                clear hY HY
                have hcS : Y.cell? ⟨w1.heap.size, 0, none⟩ = some (.int .u64 (sq A 1).a) := by rw [cell_of_row _ _ _ _ _ _ HT.out.st]; rfl
                obtain ⟨hb0, hb1⟩ := (sq_ok A HOK.out 1).1
                have hLT : w1.heap.size < Y.heap.size := (Array.getElem?_eq_some_iff.1 HT.out.st).1
                have hNE : w1.heap.size ≠ gO := Nat.ne_of_lt HT.out.lt2
                go_region_held3 (fun w' => w'.cell? ⟨w1.heap.size, 0, none⟩ = some (.int .u64 (sq A 1).a)) (first | exact hcS | exact (cell_alloc_lt Y _ _ _ hLT).trans hcS | exact (cell_setRow_ne _ _ _ _ _ hNE).trans ((cell_alloc_lt Y _ _ _ hLT).trans hcS)) (first | (go_at_call 30; refine (num_any _ _ hb0 hb1).mono ?_; rintro e w2 ⟨rfl, rfl⟩; have hY2 := (HT.out.below (bl_alloc (Below.refl _ _) (.cells (bvs (numB (sq A 1).a)).toArray 5))).drew; have HT2 := Lib.hid hY2; have hnb : (Y.alloc (.cells (bvs (numB (sq A 1).a)).toArray 5)).drew.heap[Y.heap.size]? = some (.cells (bvs (numB (sq A 1).a)).toArray 5) := heap_alloc_new Y _; have HNB := Lib.hid hnb; clear hnb hY2) | (refine step_copy_num rfl (.tmp 47) (.tmp 50) rfl (fun k => (sq A k).a) 1 gO 8 24 24 Y.heap.size rfl (by omega) (by omega) rfl rfl HT2.out.out HNB.out ?_))
                go_wp2_with fail
                go_roundw
                case rel => exact ⟨2, rfl, by omega, HT2.out.setO _⟩
                case measure => simp [intOf]
              · clear hk hlt
                go_upto_region 15 with fail
                refine wp_region_lit ?_
                refine wpList_load_row rfl 116 (.tmp 3) rfl w1.heap.size rfl 116 _ (0, 0) _ HO.out.st Try.underlying116 rfl arr5_info ?_
                go_wp2_with fail
                refine (sqp_any A 1 wr).mono ?_
                rintro e w2 ⟨rfl, hb2⟩
                have HY := Lib.hid (HO.out.below hb2)
                clear hb2 HO
                go_upto_region 16 with (refine wpList_store_row rfl 116 (.tmp 3) (.tmp 45) rfl w1.heap.size (sq A 2).cells rfl rfl 116 _ HY.out.st arr5_info ((St.size_cells _).trans (St.size_cells _).symm) (St.one_cells _) ?_)
                refine wp_world (fun W => SumO w W w1.heap.size gO (sq A 2) (lay (fun k => (sq A k).a) 2)) (HY.out.setS _) ?_
                simp only [Act.put]
                intro Y hY
                have HT := Lib.hid hY
                clear hY HY
                have hcS : Y.cell? ⟨w1.heap.size, 0, none⟩ = some (.int .u64 (sq A 2).a) := by rw [cell_of_row _ _ _ _ _ _ HT.out.st]; rfl
                obtain ⟨hb0, hb1⟩ := (sq_ok A HOK.out 2).1
                have hLT : w1.heap.size < Y.heap.size := (Array.getElem?_eq_some_iff.1 HT.out.st).1
                have hNE : w1.heap.size ≠ gO := Nat.ne_of_lt HT.out.lt2
                go_region_held3 (fun w' => w'.cell? ⟨w1.heap.size, 0, none⟩ = some (.int .u64 (sq A 2).a)) (first | exact hcS | exact (cell_alloc_lt Y _ _ _ hLT).trans hcS | exact (cell_setRow_ne _ _ _ _ _ hNE).trans ((cell_alloc_lt Y _ _ _ hLT).trans hcS)) (first | (go_at_call 30; refine (num_any _ _ hb0 hb1).mono ?_; rintro e w2 ⟨rfl, rfl⟩; have hY2 := (HT.out.below (bl_alloc (Below.refl _ _) (.cells (bvs (numB (sq A 2).a)).toArray 5))).drew; have HT2 := Lib.hid hY2; have hnb : (Y.alloc (.cells (bvs (numB (sq A 2).a)).toArray 5)).drew.heap[Y.heap.size]? = some (.cells (bvs (numB (sq A 2).a)).toArray 5) := heap_alloc_new Y _; have HNB := Lib.hid hnb; clear hnb hY2) | (refine step_copy_num rfl (.tmp 47) (.tmp 50) rfl (fun k => (sq A k).a) 2 gO 16 16 16 Y.heap.size rfl (by omega) (by omega) rfl rfl HT2.out.out HNB.out ?_))
                go_wp2_with fail
                go_roundw
                case rel => exact ⟨3, rfl, by omega, HT2.out.setO _⟩
                case measure => simp [intOf]
              · clear hk hlt
                go_upto_region 15 with fail
                refine wp_region_lit ?_
                refine wpList_load_row rfl 116 (.tmp 3) rfl w1.heap.size rfl 116 _ (0, 0) _ HO.out.st Try.underlying116 rfl arr5_info ?_
                go_wp2_with fail
                refine (sqp_any A 2 wr).mono ?_
                rintro e w2 ⟨rfl, hb2⟩
                have HY := Lib.hid (HO.out.below hb2)
                clear hb2 HO
                go_upto_region 16 with (refine wpList_store_row rfl 116 (.tmp 3) (.tmp 45) rfl w1.heap.size (sq A 3).cells rfl rfl 116 _ HY.out.st arr5_info ((St.size_cells _).trans (St.size_cells _).symm) (St.one_cells _) ?_)
                refine wp_world (fun W => SumO w W w1.heap.size gO (sq A 3) (lay (fun k => (sq A k).a) 3)) (HY.out.setS _) ?_
                simp only [Act.put]
                intro Y hY
                have HT := Lib.hid hY
                clear hY HY
                have hcS : Y.cell? ⟨w1.heap.size, 0, none⟩ = some (.int .u64 (sq A 3).a) := by rw [cell_of_row _ _ _ _ _ _ HT.out.st]; rfl
                obtain ⟨hb0, hb1⟩ := (sq_ok A HOK.out 3).1
                have hLT : w1.heap.size < Y.heap.size := (Array.getElem?_eq_some_iff.1 HT.out.st).1
                have hNE : w1.heap.size ≠ gO := Nat.ne_of_lt HT.out.lt2
                go_region_held3 (fun w' => w'.cell? ⟨w1.heap.size, 0, none⟩ = some (.int .u64 (sq A 3).a)) (first | exact hcS | exact (cell_alloc_lt Y _ _ _ hLT).trans hcS | exact (cell_setRow_ne _ _ _ _ _ hNE).trans ((cell_alloc_lt Y _ _ _ hLT).trans hcS)) (first | (go_at_call 30; refine (num_any _ _ hb0 hb1).mono ?_; rintro e w2 ⟨rfl, rfl⟩; have hY2 := (HT.out.below (bl_alloc (Below.refl _ _) (.cells (bvs (numB (sq A 3).a)).toArray 5))).drew; have HT2 := Lib.hid hY2; have hnb : (Y.alloc (.cells (bvs (numB (sq A 3).a)).toArray 5)).drew.heap[Y.heap.size]? = some (.cells (bvs (numB (sq A 3).a)).toArray 5) := heap_alloc_new Y _; have HNB := Lib.hid hnb; clear hnb hY2) | (refine step_copy_num rfl (.tmp 47) (.tmp 50) rfl (fun k => (sq A k).a) 3 gO 24 8 8 Y.heap.size rfl (by omega) (by omega) rfl rfl HT2.out.out HNB.out ?_))
                go_wp2_with fail
                go_roundw
                case rel => exact ⟨4, rfl, by omega, HT2.out.setO _⟩
                case measure => simp [intOf]
            · have hk4 : k = 4 := by omega
              subst hk4
              clear hk hlt
              go_upto_region 17 with fail
              refine wp_region_lit ?_
              refine wpList_load_row rfl 23 (.tmp 5) rfl gO rfl 23 _ (0, 0) _ HO.out.out Try.underlying23 rfl arr32_info ?_
              obtain ⟨z, hz, hz2⟩ := HO.out.res
              refine wpList_store_row rfl 23 (.tmp 2) (.tmp 52) rfl w.heap.size (bvs (lay (fun k => (sq A k).a) 4)).toArray rfl rfl 23 _ hz arr32_info (by rw [hz2, List.size_toArray, bvs_length, lay_length _ 4 (by omega)]) (bvs_all _) ?_
              go_wp2_with fail
              have hsum : lay (fun k => (sq A k).a) 4 = sumB l := by rw [lay_four]; unfold sumB; rw [HAA.out]; rfl
              rw [← hsum]
              refine bodyPost_ret (v := hashV (lay (fun k => (sq A k).a) 4)) (results_cell_row rfl _ _ w.heap.size 23 _ (0, 0) _ rfl (setRow_heap _ _ _ _ _ _ hz) Try.underlying23 rfl arr32_info) rfl ⟨rfl, below_setRow HO.out.bel (Nat.le_refl _)⟩
end Go.Proofs.Yteapoemockimfaa
