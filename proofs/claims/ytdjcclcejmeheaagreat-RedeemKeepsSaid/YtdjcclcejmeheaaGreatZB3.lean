import Derived.Test.YtdjcclcejmeheaaGreatZB2
import Derived.Laws.CopyOwn
import Derived.Test.YtdjcclcejmeheaaGreatZB1
import Derived.ChangeSlices
import Derived.Lib.SmallJoins
import Derived.WideShapes
import Derived.Below
import Derived.OpenShut
import Derived.ChangeArms
import Derived.Deep.MidRow
import Derived.DeepKeys
/-
  The sponge's hash as a plain function. The sponge's Sum comes to the plain hash. The reference's permutation comes to the same. The reference's Sum comes to the same hash. A tag and lumps, hashed. A hash as a number; Public, both. The challenge, the public number, the signature: what the program's and the reference's functions come to. The signature: what the program's and the reference's Sign come to. Check: what the program's and the reference's come to. The reference's Check comes to the same. Put: a signature's bytes, both. PutSig of the reference gives the same bytes. The plain law of signatures: what Sign gives, Check takes. Opening the arguments of a law: a slice of bytes, a signature. Small words for the laws' walks: a signature's box, bytes as a string. append(b, make([]byte, n)...) to a slice of one's own. append of bytes to a full slice that is not one's own; a byte of one's own slice written. Public numbers and genuine signatures: the plain laws that all seats share. Opening a hash that comes in. Words that all layers above the signatures share.
-/
section
namespace Go.Proofs.YtdjcclcejmeheaaGreat
set_option linter.unusedVariables false
set_option linter.unusedSimpArgs false
open Go.RowKit
/-- Zeros till the length is a multiple of eight. -/
def zerosFor (n : Nat) : Nat := (8 - n % 8) % 8
def padB (l : List UInt8) : List UInt8 := (l ++ [1]) ++ List.replicate (zerosFor (l.length + 1)) 0
theorem padB_mod (l : List UInt8) : (padB l).length % 8 = 0 := by unfold padB zerosFor; simp; omega
theorem padB_len (l : List UInt8) : (padB l).length ≤ l.length + 8 := by unfold padB zerosFor; simp; omega
def st0 : St := permF ⟨8800401358850, 0, 0, 0, 0⟩
/-- A word goes in. -/
def absorb1 (s : St) (c : List UInt8) : St := permF ⟨bxor s.a (leNum c), s.b, s.c, s.d, s.e⟩
/-- The state behind the first n words. -/
def absorbN (l : List UInt8) : Nat → St
  | 0 => st0
  | n + 1 => absorb1 (absorbN l n) ((l.drop (8 * n)).take 8)
def absorb (l : List UInt8) : St := absorbN (padB l) ((padB l).length / 8)
def sq (s : St) : Nat → St
  | 0 => s
  | n + 1 => permF (sq s n)
/-- The hash. -/
def sumB (l : List UInt8) : List UInt8 := numB (absorb l).a ++ numB (sq (absorb l) 1).a ++ numB (sq (absorb l) 2).a ++ numB (sq (absorb l) 3).a
theorem sumB_length (l : List UInt8) : (sumB l).length = 32 := rfl
/-- A hash as a value. -/
def hashV (h : List UInt8) : Value := .agg (bvs h).toArray
theorem own_setRow {w : World} {B : Nat} {v : Value} {l : List UInt8} (h : Own w B v l) {g : Nat} (hg : g < B) (cs : Array Value) : Own (w.setRow g cs) B v l := by
  refine ⟨h.1, ?_⟩
  rcases h.2 with h | ⟨g', cap, cur, hv, hb, hh, r⟩
  · exact .inl h
  · exact .inr ⟨g', cap, cur, hv, hb, by rw [setRow_other _ _ _ _ (by omega)]; exact hh, r⟩
theorem St.set_a (s : St) (x : Int) : s.cells.setIfInBounds 0 (.int .u64 x) = (St.mk x s.b s.c s.d s.e).cells := rfl
theorem arr32_info : (Tryz.prog.info? 41).map (·.size) = some 32 := by kernel_rfl
end Go.Proofs.YtdjcclcejmeheaaGreat
end
section
namespace Go.Proofs.YtdjcclcejmeheaaGreat
set_option linter.unusedVariables false
set_option linter.unusedSimpArgs false
open Go.RowKit
/-- What Sum's memory holds while it absorbs. -/
structure SumI (w wr : World) (gS : Nat) (s : St) (v : Value) (l : List UInt8) : Prop where
  res : ∃ z, wr.heap[w.heap.size]? = some (.cells z 41 (0, 0)) ∧ z.size = 32
  st : wr.heap[gS]? = some (.cells s.cells 178 (0, 0))
  own : Own wr (gS + 1) v l
  bel : Below w.heap.size w wr
  lt : w.heap.size < gS
theorem SumI.grown {w wr w' : World} {gS : Nat} {s : St} {v v' : Value} {l l' : List UInt8} (h : SumI w wr gS s v l) (hg : wr.grownBy w' v.ownBlock) (ho : Own w' (gS + 1) v' l') : SumI w w' gS s v' l' := by
  have hr := h.own.row
  have hne : ∀ k, k < gS + 1 → some k ≠ v.ownBlock := by
    intro k hk e; have := hr k e.symm; omega
  obtain ⟨z, hz, hz2⟩ := h.res
  have h1 := (Array.getElem?_eq_some_iff.1 hz).1
  have h2 := (Array.getElem?_eq_some_iff.1 h.st).1
  refine ⟨⟨z, ?_, hz2⟩, ?_, ho, below_grown h.bel hg (fun k hk => by have := hr k hk; have := h.lt; omega), h.lt⟩
  · rw [hg.block _ h1 (hne _ (by have := h.lt; omega))]; exact hz
  · rw [hg.block _ h2 (hne _ (by omega))]; exact h.st
theorem SumI.below {w wr w' : World} {gS : Nat} {s : St} {v : Value} {l : List UInt8} (h : SumI w wr gS s v l) (hb : Below wr.heap.size wr w') : SumI w w' gS s v l := by
  obtain ⟨z, hz, hz2⟩ := h.res
  have h1 := (Array.getElem?_eq_some_iff.1 hz).1
  have h2 := (Array.getElem?_eq_some_iff.1 h.st).1
  exact ⟨⟨z, by rw [hb.block _ h1]; exact hz, hz2⟩, by rw [hb.block _ h2]; exact h.st, h.own.below hb, bl_bl h.bel hb, h.lt⟩
theorem SumI.setS {w wr : World} {gS : Nat} {s : St} {v : Value} {l : List UInt8} (h : SumI w wr gS s v l) (s' : St) : SumI w (wr.setRow gS s'.cells) gS s' v l := by
  obtain ⟨z, hz, hz2⟩ := h.res
  exact ⟨⟨z, by rw [setRow_other _ _ _ _ (by have := h.lt; omega)]; exact hz, hz2⟩, setRow_heap _ _ _ _ _ _ h.st, own_setRow h.own (by omega) _, below_setRow h.bel (by have := h.lt; omega), h.lt⟩
theorem SumI.size {w wr : World} {gS : Nat} {s : St} {v : Value} {l : List UInt8} (h : SumI w wr gS s v l) : gS + 1 ≤ wr.heap.size := (Array.getElem?_eq_some_iff.1 h.st).1
theorem SumI.setA {w wr : World} {gS : Nat} {s : St} {v : Value} {l : List UInt8} (h : SumI w wr gS s v l) (n : Nat) (x : Int) : SumI w ((wr.drewN n).setCell ⟨gS, 0, none⟩ (.int .u64 x)) gS ⟨x, s.b, s.c, s.d, s.e⟩ v l := by
  obtain ⟨z, hz, hz2⟩ := h.res
  have hlt := h.lt
  refine ⟨⟨z, by rw [heap_far _ _ _ _ _ (by omega)]; exact hz, hz2⟩, ?_, ownsRow_setCell_below h.own (by show gS < gS + 1; omega) _, (bl_drewN h.bel n).setCell (by show w.heap.size ≤ gS; omega) _, h.lt⟩
  rw [← St.set_a]
  exact heap_setCell_same _ _ _ _ _ _ h.st
/-- The bytes of four words, laid one behind the other over zeros. -/
def lay (f : Nat → Int) : Nat → List UInt8
  | 0 => List.replicate 32 0
  | k + 1 => (lay f k).take (8 * k) ++ (numB (f k) ++ (lay f k).drop (8 * k + 8))
theorem lay_four (f : Nat → Int) : lay f 4 = numB (f 0) ++ numB (f 1) ++ numB (f 2) ++ numB (f 3) := rfl
theorem lay_length (f : Nat → Int) : ∀ k, k ≤ 4 → (lay f k).length = 32
  | 0, _ => rfl
  | k + 1, h => by
    have ih := lay_length f k (by omega)
    simp only [lay, List.length_append, List.length_take, List.length_drop, ih, numB_length]
    omega
theorem bvs_lay (f : Nat → Int) (k : Nat) : (bvs (lay f k)).toArray.toList.take (8 * k) ++ (bvs (numB (f k)) ++ (bvs (lay f k)).toArray.toList.drop (8 * k + (bvs (numB (f k))).length)) = bvs (lay f (k + 1)) := by
  rw [bvs_length, numB_length]
  simp only [lay, bvs, List.map_append, List.map_take, List.map_drop]
theorem permF_ok (s : St) : (permF s).ok := roundF_ok (permN s 11) _
theorem absorbN_ok (l : List UInt8) : ∀ n, (absorbN l n).ok
  | 0 => permF_ok _
  | n + 1 => permF_ok _
theorem absorb_ok (l : List UInt8) : (absorb l).ok := absorbN_ok _ _
theorem sq_ok (s : St) (h : s.ok) : ∀ n, (sq s n).ok
  | 0 => h
  | n + 1 => permF_ok _
theorem info8s : (Tryz.prog.info? 5).map (·.size) = some 1 := by kernel_rfl
theorem sqp_any (A : St) (k : Nat) (w : World) :
    Calls Tryz.prog 147 #[.agg (sq A k).cells] w fun e w' => e = .returned (.agg (sq A (k + 1)).cells) ∧ Below w.heap.size w w' := perm_any (sq A k) w
theorem num_fit (f : Nat → Int) (n : Int) (k : Nat) (h : k < 4) : 8 * k + (bvs (numB n)).length ≤ (bvs (lay f k)).toArray.size := by
  rw [bvs_length, numB_length, List.size_toArray, bvs_length, lay_length f k (by omega)]; omega
theorem cell_setRow_ne (w : World) (g : Nat) (cs : Array Value) (b o : Nat) (h : b ≠ g) : (w.setRow g cs).cell? ⟨b, o, none⟩ = w.cell? ⟨b, o, none⟩ := by
  simp only [World.cell?, setRow_other _ _ _ _ h]
theorem cell_alloc_lt (w : World) (x : Obj) (b o : Nat) (h : b < w.heap.size) : (w.alloc x).cell? ⟨b, o, none⟩ = w.cell? ⟨b, o, none⟩ := by
  simp only [World.cell?, heap_alloc_old _ _ h]
/-- The same as one step of a region that draws its order. -/
theorem step_copy_num {w : World} {ops : Array Oper} {o : Oper} {a : Act} {K : Act → World → Prop} {Q : Exit → Act → World → Prop} {E : Prop} (hgd : o.guard = none) (d s : Operand)
    (ho : o.op = .call { callee := .builtin .copy, args := #[d, s], argTypes := #[22, 22] }) (f : Nat → Int) (k g off dLen dCap b : Nat) (hoff : off = 8 * k) (hk : k < 4) (hdl : 8 ≤ dLen)
    (hd : a.eval d = .slice (some ⟨g, off, none⟩) dLen dCap) (hs : a.eval s = .slice (some ⟨b, 0, none⟩) 8 8) {T T' : TypeId} {fr : Nat × Nat}
    (hg : w.heap[g]? = some (.cells (bvs (lay f k)).toArray T (0, 0))) (hb : w.heap[b]? = some (.cells (bvs (numB (f k))).toArray T' fr))
    (h : K (a.put o.dst (.int .i64 8)) (w.setRow g (bvs (lay f (k + 1))).toArray)) : if Region.wanted o (yielded ops a.tmps) = true then Oper.wp Tryz.prog o a w K Q else E := by
  subst hoff
  have hw : Region.wanted o (yielded ops a.tmps) = true := by simp [Region.wanted, hgd]
  rw [if_pos hw]
  have hrun := run_copy_row (P := Tryz.prog) w 22 22 o.type 5 g (8 * k) dLen dCap ⟨b, 0, none⟩ 8 8 _ _ (bvs (numB (f k))) Tryz.underlying22 info8s hg (by rw [bvs_length, numB_length]; exact (Nat.min_eq_left hdl).symm)
    (fun j v hv => by rw [addr_add, cell_of_row _ _ _ _ _ _ hb, Nat.zero_add]; simpa using hv) (num_fit _ _ k hk) (bvs_one _)
  rw [List.append_assoc, bvs_lay f k] at hrun
  unfold Oper.wp
  simp [execOp, ho, resolve, invoke, builtin, hd, hs, hrun, Result.andThen, bvs_length, numB_length]
  exact h
theorem bvs_all (l : List UInt8) : (bvs l).toArray.all (·.oneCell') = true := by
  rw [Array.all_eq_true_iff_forall_mem]
  intro u hu
  exact bvs_one l u (by simpa using hu)
/-- What Sum's memory holds while it is squeezed. -/
structure SumO (w wr : World) (gS gO : Nat) (s : St) (b : List UInt8) : Prop where
  res : ∃ z, wr.heap[w.heap.size]? = some (.cells z 41 (0, 0)) ∧ z.size = 32
  st : wr.heap[gS]? = some (.cells s.cells 178 (0, 0))
  out : wr.heap[gO]? = some (.cells (bvs b).toArray 41 (0, 0))
  bel : Below w.heap.size w wr
  lt : w.heap.size < gS
  lt2 : gS < gO
theorem SumO.below {w wr w' : World} {gS gO : Nat} {s : St} {b : List UInt8} (h : SumO w wr gS gO s b) (hb : Below wr.heap.size wr w') : SumO w w' gS gO s b := by
  obtain ⟨z, hz, hz2⟩ := h.res
  have h1 := (Array.getElem?_eq_some_iff.1 hz).1
  have h2 := (Array.getElem?_eq_some_iff.1 h.st).1
  have h3 := (Array.getElem?_eq_some_iff.1 h.out).1
  exact ⟨⟨z, by rw [hb.block _ h1]; exact hz, hz2⟩, by rw [hb.block _ h2]; exact h.st, by rw [hb.block _ h3]; exact h.out, bl_bl h.bel hb, h.lt, h.lt2⟩
theorem SumO.drewN {w wr : World} {gS gO : Nat} {s : St} {b : List UInt8} (h : SumO w wr gS gO s b) (n : Nat) : SumO w (wr.drewN n) gS gO s b := ⟨h.res, h.st, h.out, bl_drewN h.bel n, h.lt, h.lt2⟩
theorem SumO.drew {w wr : World} {gS gO : Nat} {s : St} {b : List UInt8} (h : SumO w wr gS gO s b) : SumO w wr.drew gS gO s b := ⟨h.res, h.st, h.out, bl_dr h.bel (Dr.drew (Dr.refl _)), h.lt, h.lt2⟩
theorem SumO.setS {w wr : World} {gS gO : Nat} {s : St} {b : List UInt8} (h : SumO w wr gS gO s b) (s' : St) : SumO w (wr.setRow gS s'.cells) gS gO s' b := by
  obtain ⟨z, hz, hz2⟩ := h.res
  have := h.lt
  have := h.lt2
  exact ⟨⟨z, by rw [setRow_other _ _ _ _ (by omega)]; exact hz, hz2⟩, setRow_heap _ _ _ _ _ _ h.st, by rw [setRow_other _ _ _ _ (by omega)]; exact h.out, below_setRow h.bel (by omega), h.lt, h.lt2⟩
theorem SumO.setO {w wr : World} {gS gO : Nat} {s : St} {b : List UInt8} (h : SumO w wr gS gO s b) (b' : List UInt8) : SumO w (wr.setRow gO (bvs b').toArray) gS gO s b' := by
  obtain ⟨z, hz, hz2⟩ := h.res
  have := h.lt
  have := h.lt2
  exact ⟨⟨z, by rw [setRow_other _ _ _ _ (by omega)]; exact hz, hz2⟩, by rw [setRow_other _ _ _ _ (by omega)]; exact h.st, setRow_heap _ _ _ _ _ _ h.out, below_setRow h.bel (by omega), h.lt, h.lt2⟩
theorem SumI.toO {w wr : World} {gS : Nat} {s : St} {v : Value} {l : List UInt8} (h : SumI w wr gS s v l) (b : List UInt8) : SumO w (wr.alloc (.cells (bvs b).toArray 41)) gS wr.heap.size s b := by
  obtain ⟨z, hz, hz2⟩ := h.res
  have h1 := (Array.getElem?_eq_some_iff.1 hz).1
  have h2 := (Array.getElem?_eq_some_iff.1 h.st).1
  exact ⟨⟨z, by rw [heap_alloc_old _ _ h1]; exact hz, hz2⟩, by rw [heap_alloc_old _ _ h2]; exact h.st, heap_alloc_new _ _, bl_alloc h.bel _, h.lt, h2⟩
/-- A slice's length, for a measure. -/
def lenV : Value → Nat
  | .slice _ n _ => n
  | _ => 0
theorem byt_one : byt 1 = 1 := rfl
theorem byt_zero : byt 0 = 0 := rfl
theorem rep_snoc (m : List UInt8) (k : Nat) : (m ++ List.replicate k 0) ++ [byt 0] = m ++ List.replicate (k + 1) 0 := by
  rw [List.append_assoc, byt_zero, List.replicate_succ']
set_option maxRecDepth 100000 in
set_option maxHeartbeats 4000000 in
theorem sum_any (v : Value) (l : List UInt8) (w : World) (hv : Rd w v l) (hl : l.length ≤ 549755813888) :
    Calls Tryz.prog 123 #[v] w fun e w' => e = .returned (hashV (sumB l)) ∧ Below w.heap.size w w' := by
  obtain ⟨a, c, rfl⟩ := hv.shape
  have HV := Lib.hid hv
  clear hv
  go_enter Tryz.func123, Tryz.ntmps123
  go_wp2_with fail
  refine (perm_any ⟨8800401358850, 0, 0, 0, 0⟩ _).mono ?_
  rintro e w1 ⟨rfl, hb⟩
  have hres := hb.block w.heap.size (by simp)
  rw [heap_alloc_new] at hres
  obtain ⟨z, hz, hz2⟩ : ∃ z, w1.heap[w.heap.size]? = some (.cells z 41 (0, 0)) ∧ z.size = 32 := ⟨_, hres, rfl⟩
  have HB := Lib.hid (bl_bl (bl_alloc (Below.refl w.heap.size w) _) hb)
  have hsz : w.heap.size < w1.heap.size := (Array.getElem?_eq_some_iff.1 hz).1
  have HS := Lib.hid hsz
  clear hb hres hsz
  have hst := heap_alloc_new w1 (.cells #[.int .u64 0, .int .u64 0, .int .u64 0, .int .u64 0, .int .u64 0] 178)
  have hset := setRow_heap _ _ _ st0.cells _ _ hst
  have hbel := below_setRow (g := w1.heap.size) (cs := st0.cells) (bl_alloc HB.out (.cells #[.int .u64 0, .int .u64 0, .int .u64 0, .int .u64 0, .int .u64 0] 178)) (Nat.le_of_lt HS.out)
  have hres2 : ((w1.alloc (.cells #[.int .u64 0, .int .u64 0, .int .u64 0, .int .u64 0, .int .u64 0] 178)).setRow w1.heap.size st0.cells).heap[w.heap.size]? = some (.cells z 41 (0, 0)) := by
    rw [setRow_other _ _ _ _ (by have := HS.out; omega), heap_alloc_old _ _ HS.out]; exact hz
  have hsize : ((w1.alloc (.cells #[.int .u64 0, .int .u64 0, .int .u64 0, .int .u64 0, .int .u64 0] 178)).setRow w1.heap.size st0.cells).heap.size = w1.heap.size + 1 := by simp [World.setRow]
  have HI := Lib.hid (SumI.mk (v := .slice none 0 0) (l := []) ⟨_, hres2, hz2⟩ hset (Own.nil _ _) hbel HS.out)
  have HST := Lib.hid hst
  have HSZ := Lib.hid hsize
  clear hst hset hbel hres2 hsize hz
  go_upto_region 2 with (refine wpList_store_row rfl 178 (.tmp 3) (.tmp 8) rfl w1.heap.size st0.cells rfl rfl 178 _ HST.out arr5_info (St.size_cells _).symm (St.one_cells _) ?_)
  refine wp_world (fun W => SumI w W w1.heap.size st0 (.slice none 0 0) [] ∧ Rd W (.slice a l.length c) l) ⟨HI.out, HV.out.below HI.out.bel⟩ ?_
  rintro W ⟨hI, hV⟩
  have HI := Lib.hid hI
  have HV := Lib.hid hV
  clear hI hV HST HSZ hz2 z HB
  go_wp2_with (first
    | (at_builtin; refine wpList_append_bytes rfl (.const (.slice none 0 0)) (.tmp 9) rfl (w1.heap.size + 1) rfl rfl HI.out.own HV.out (by simp; omega) HI.out.size ?_; intro v1 W1 ho1 hg1; have HI1 := Lib.hid (HI.out.grown hg1 ho1); clear ho1 hg1)
    | (at_builtin; refine wpList_append_bytes rfl (.tmp 10) (.tmp 11) rfl (w1.heap.size + 1) rfl rfl (HI1.out.own.alloc _) (rd_one _ 1 (by omega) (by omega)) (by simp; omega) (by have := HI1.out.size; simp; omega) ?_; intro v2 W2 ho2 hg2; have HI2 := Lib.hid ((HI1.out.below (bl_alloc (Below.refl _ _) _)).grown hg2 ho2); clear ho2 hg2))
  have HI3 := Lib.hid HI2.out
  clear HI HI1 HI2
  have hm : (l ++ [(1 : UInt8)]).length = l.length + 1 := by simp
  generalize hM : l ++ [(1 : UInt8)] = M at *
  have HM := Lib.hid hM
  have HM2 := Lib.hid hm
  clear hM hm
  go_loopw [0] (fun v0 wr => ∃ k : Nat, k ≤ zerosFor M.length ∧ SumI w wr w1.heap.size st0 v0 (M ++ List.replicate k 0)) (fun v0 _ => (8 - lenV v0 % 8) % 8)
  case atStart => exact ⟨0, by omega, by have h := HI3.out; rw [byt_one, List.nil_append, HM.out] at h; rw [List.replicate_zero, List.append_nil]; exact h⟩
  case round =>
    obtain ⟨k, hk, hI⟩ := hrel
    have hlen : (M ++ List.replicate k (0 : UInt8)).length = M.length + k := by simp
    generalize hq : M ++ List.replicate k (0 : UInt8) = q at *
    obtain ⟨a0, c0, rfl⟩ := hI.own.rd.shape
    have HI := Lib.hid hI
    have HLEN := Lib.hid hlen
    have HQ := Lib.hid hq
    clear hI hq
    by_cases hlt : k < zerosFor M.length
    · have hne : ((q.length : Int) % 8 != 0) = true := by
        rw [bne_iff_ne, hlen]; unfold zerosFor at hlt; omega
      have hb : q.length ≤ 549755813900 := by
        rw [hlen]; have := HM2.out; unfold zerosFor at hlt; omega
      clear hlen
      go_wp2_with (at_builtin; refine wpList_append_bytes rfl (.tmp 17) (.tmp 18) rfl (w1.heap.size + 1) rfl rfl (HI.out.own.alloc _) (rd_one _ 0 (by omega) (by omega)) (by simp only [List.length_cons, List.length_nil]; omega) (by have := HI.out.size; simp; omega) ?_; intro v2 W2 ho2 hg2; have HI2 := Lib.hid ((HI.out.below (bl_alloc (Below.refl _ _) _)).grown hg2 ho2); clear ho2 hg2)
      go_roundw
      case rel => exact ⟨k + 1, by omega, by rw [← rep_snoc, HQ.out]; exact HI2.out⟩
      case measure =>
        obtain ⟨a2, c2, h2⟩ := HI2.out.own.rd.shape
        rw [h2]
        have h3 := HLEN.out
        simp only [lenV, List.length_append, List.length_cons, List.length_nil] at *
        unfold zerosFor at hlt
        omega
    · have hk2 : k = zerosFor M.length := by omega
      have hne : ((q.length : Int) % 8 != 0) = false := by
        rw [bne_eq_false_iff_eq, hlen, hk2]; unfold zerosFor; omega
      have hpad : q = padB l := by rw [← HQ.out, hk2, HM2.out, ← HM.out]; rfl
      have hq8 := padB_mod l
      have hqb := padB_len l
      rw [← hpad] at hq8 hqb
      have HP := Lib.hid hpad
      have HQ8 := Lib.hid hq8
      clear hlen hpad hk2 hq8
      go_wp2_with fail
      have ha0 : ∃ b0, a0 = some ⟨b0, 0, none⟩ := by
        rcases HI.out.own.2 with ⟨h, hn⟩ | ⟨g, cap, cur, h, _⟩
        · exfalso; have h3 := HLEN.out; rw [HM2.out] at h3; omega
        · simp at h; exact ⟨g, h.1⟩
      obtain ⟨b0, rfl⟩ := ha0
      go_loopw [4] (fun v4 wr => ∃ n : Nat, v4 = .int .i64 ((8 * n : Nat) : Int) ∧ 8 * n ≤ q.length ∧ SumI w wr w1.heap.size (absorbN q n) (.slice (some ⟨b0, 0, none⟩) q.length c0) q) (fun v4 _ => q.length - (intOf v4).toNat)
      case atStart => exact ⟨0, rfl, by omega, HI.out⟩
      case round =>
        obtain ⟨n, rfl, hn, hJ⟩ := hrel
        have HJ := Lib.hid hJ
        clear hJ
        have hqb2 : q.length ≤ 549755813896 := by omega
        by_cases hlt : 8 * n < q.length
        · have hr := HJ.out.own.rd
          have hc0 : q.length ≤ c0 := by
            rcases hr with ⟨h, h'⟩ | ⟨b', o', c', h, hc, _⟩
            · simp at h
            · simp at h; omega
          have hge : 8 * n + 8 ≤ q.length := by have := HQ8.out; omega
          obtain ⟨j, hj⟩ : ∃ j, j = 8 * n := ⟨_, rfl⟩
          rw [← hj] at hlt hge
          rw [← hj]
          have HJJ := Lib.hid hj
          clear hj hr
          go_upto_region 8 with fail
          have hcS : wr.cell? ⟨w1.heap.size, 0, none⟩ = some (.int .u64 (absorbN q n).a) := by rw [cell_of_row _ _ _ _ _ _ HJ.out.st]; rfl
          have hfS : wr.frozen? ⟨w1.heap.size, 0, none⟩ = false := frozen_of_row _ _ _ _ _ HJ.out.st
          have hRD : Rd wr (.slice (some ⟨b0, j, none⟩) 8 (c0 - j)) ((q.drop j).take 8) := by
            have h1 := HJ.out.own.rd.drop j (by omega) ⟨b0, j, none⟩ (fun _ => by rw [Nat.zero_add]) ⟨_, _, rfl⟩
            rw [← List.length_drop] at h1
            exact h1.take 8 (by rw [List.length_drop]; omega)
          have hle8 : ((q.drop j).take 8).length ≤ 8 := by rw [List.length_take]; omega
          have HRD := Lib.hid hRD
          have HLE8 := Lib.hid hle8
          clear hRD hle8
          refine region_quiet_tail (C := fun w' => ∃ n, w' = wr.drewN n) 10 (by kernel_rfl) (by kernel_rfl) ⟨1, rfl⟩ ?_
          simp only [List.take_succ_cons, List.take_zero, List.drop_succ_cons, List.drop_zero]
          repeat (go_big_quiet_step ((go_at_call 148; exact Calls.quiet_of_same ((word_any _ _ _ (Rd.drewN HRD.out _) HLE8.out).mono fun _ _ ⟨h, k⟩ => ⟨h, k.symm⟩))))
          refine wpQuiet_nil ?_
          intro W' hW'
          obtain ⟨nq, rfl⟩ := hW'
          go_upto_region 9 with fail
          refine wp_world (fun W => SumI w W w1.heap.size ⟨bxor (absorbN q n).a (leNum ((q.drop j).take 8)), (absorbN q n).b, (absorbN q n).c, (absorbN q n).d, (absorbN q n).e⟩ (.slice (some ⟨b0, 0, none⟩) q.length c0) q) (HJ.out.setA _ _) ?_
          intro X hX
          have HX := Lib.hid hX
          clear hX hcS hfS
          refine wp_region_lit ?_
          refine wpList_load_row rfl 178 (.tmp 3) rfl w1.heap.size rfl 178 _ (0, 0) _ HX.out.st Tryz.underlying178 rfl arr5_info ?_
          go_wp2_with fail
          have hnext : permF ⟨bxor (absorbN q n).a (leNum ((q.drop j).take 8)), (absorbN q n).b, (absorbN q n).c, (absorbN q n).d, (absorbN q n).e⟩ = absorbN q (n + 1) := by rw [HJJ.out]; rfl
          have hperm := perm_any ⟨bxor (absorbN q n).a (leNum ((q.drop j).take 8)), (absorbN q n).b, (absorbN q n).c, (absorbN q n).d, (absorbN q n).e⟩ X
          rw [hnext] at hperm
          clear hnext
          refine hperm.mono ?_
          rintro e w2 ⟨rfl, hb2⟩
          have HY := Lib.hid (HX.out.below hb2)
          clear hb2
          go_wp2_with (refine wpList_store_row rfl 178 (.tmp 3) (.tmp 37) rfl w1.heap.size (absorbN q (n + 1)).cells rfl rfl 178 _ HY.out.st arr5_info ((St.size_cells _).trans (St.size_cells _).symm) (St.one_cells _) ?_)
          go_roundw
          case rel => exact ⟨n + 1, by rw [HJJ.out]; go_num, by have := HJJ.out; omega, HY.out.setS _⟩
          case measure => simp [intOf]; omega
        · have hqn : 8 * n = q.length := by omega
          go_upto_region 10 with fail
          have hA : absorbN q n = absorb l := by
            have h := HP.out
            unfold absorb
            rw [← h, ← hqn, Nat.mul_div_cancel_left _ (by omega)]
          have HJ2 := Lib.hid (hA ▸ HJ.out)
          clear HJ hA
          have HO := Lib.hid (HJ2.out.toO (lay (fun k => (sq (absorb l) k).a) 0))
          clear HP HQ8 HQ HLEN hne hqb hn hlt hqn
          generalize hAA : absorb l = A at *
          have hok : A.ok := by rw [← hAA]; exact absorb_ok l
          have HOK := Lib.hid hok
          have HAA := Lib.hid hAA
          clear hok hAA
          go_upto_region 11 with fail
          generalize wr.heap.size = gO at HO ⊢
          generalize ((8 * n : Nat) : Int) = n4
          refine wp_world (fun W => SumO w W w1.heap.size gO A (lay (fun k => (sq A k).a) 0)) HO.out ?_
          intro X hX
          clear HO HJ2
          go_wp2_with fail
          go_loopw [6] (fun v6 wr => ∃ k : Nat, v6 = .int .i64 ((8 * k : Nat) : Int) ∧ k ≤ 4 ∧ SumO w wr w1.heap.size gO (sq A (k - 1)) (lay (fun k => (sq A k).a) k)) (fun v6 _ => 32 - (intOf v6).toNat)
          case atStart => exact ⟨0, rfl, by omega, hX⟩
          case round =>
            obtain ⟨k, rfl, hk, hO⟩ := hrel
            have HO := Lib.hid hO
            clear hO
            by_cases hlt : k < 4
            · obtain rfl | rfl | rfl | rfl : k = 0 ∨ k = 1 ∨ k = 2 ∨ k = 3 := by omega
              · clear hk hlt
                go_upto_region 16 with fail
                refine wp_world (fun W => SumO w W w1.heap.size gO (sq A 0) (lay (fun k => (sq A k).a) 0)) HO.out ?_
                intro Y hY
                have HT := Lib.hid hY
                clear hY HO
                have hcS : Y.cell? ⟨w1.heap.size, 0, none⟩ = some (.int .u64 (sq A 0).a) := by rw [cell_of_row _ _ _ _ _ _ HT.out.st]; rfl
                obtain ⟨hb0, hb1⟩ := (sq_ok A HOK.out 0).1
                have hLT : w1.heap.size < Y.heap.size := (Array.getElem?_eq_some_iff.1 HT.out.st).1
                have hNE : w1.heap.size ≠ gO := Nat.ne_of_lt HT.out.lt2
                go_region_held3 (fun w' => w'.cell? ⟨w1.heap.size, 0, none⟩ = some (.int .u64 (sq A 0).a)) (first | exact hcS | exact (cell_alloc_lt Y _ _ _ hLT).trans hcS | exact (cell_setRow_ne _ _ _ _ _ hNE).trans ((cell_alloc_lt Y _ _ _ hLT).trans hcS)) (first | (go_at_call 80; refine (num_any _ _ hb0 hb1).mono ?_; rintro e w2 ⟨rfl, rfl⟩; have hY2 := (HT.out.below (bl_alloc (Below.refl _ _) (.cells (bvs (numB (sq A 0).a)).toArray 5))).drew; have HT2 := Lib.hid hY2; have hnb : (Y.alloc (.cells (bvs (numB (sq A 0).a)).toArray 5)).drew.heap[Y.heap.size]? = some (.cells (bvs (numB (sq A 0).a)).toArray 5) := heap_alloc_new Y _; have HNB := Lib.hid hnb; clear hnb hY2) | (refine step_copy_num rfl (.tmp 47) (.tmp 50) rfl (fun k => (sq A k).a) 0 gO 0 32 32 Y.heap.size rfl (by omega) (by omega) rfl rfl HT2.out.out HNB.out ?_))
                go_wp2_with fail
                go_roundw
                case rel => exact ⟨1, rfl, by omega, HT2.out.setO _⟩
                case measure => simp [intOf]
              · clear hk hlt
                go_upto_region 15 with fail
                refine wp_region_lit ?_
                refine wpList_load_row rfl 178 (.tmp 3) rfl w1.heap.size rfl 178 _ (0, 0) _ HO.out.st Tryz.underlying178 rfl arr5_info ?_
                go_wp2_with fail
                refine (sqp_any A 0 wr).mono ?_
                rintro e w2 ⟨rfl, hb2⟩
                have HY := Lib.hid (HO.out.below hb2)
                clear hb2 HO
                go_upto_region 16 with (refine wpList_store_row rfl 178 (.tmp 3) (.tmp 45) rfl w1.heap.size (sq A 1).cells rfl rfl 178 _ HY.out.st arr5_info ((St.size_cells _).trans (St.size_cells _).symm) (St.one_cells _) ?_)
                refine wp_world (fun W => SumO w W w1.heap.size gO (sq A 1) (lay (fun k => (sq A k).a) 1)) (HY.out.setS _) ?_
                simp only [Act.put]
                intro Y hY
                have HT := Lib.hid hY
                clear hY HY
                have hcS : Y.cell? ⟨w1.heap.size, 0, none⟩ = some (.int .u64 (sq A 1).a) := by rw [cell_of_row _ _ _ _ _ _ HT.out.st]; rfl
                obtain ⟨hb0, hb1⟩ := (sq_ok A HOK.out 1).1
                have hLT : w1.heap.size < Y.heap.size := (Array.getElem?_eq_some_iff.1 HT.out.st).1
                have hNE : w1.heap.size ≠ gO := Nat.ne_of_lt HT.out.lt2
                go_region_held3 (fun w' => w'.cell? ⟨w1.heap.size, 0, none⟩ = some (.int .u64 (sq A 1).a)) (first | exact hcS | exact (cell_alloc_lt Y _ _ _ hLT).trans hcS | exact (cell_setRow_ne _ _ _ _ _ hNE).trans ((cell_alloc_lt Y _ _ _ hLT).trans hcS)) (first | (go_at_call 80; refine (num_any _ _ hb0 hb1).mono ?_; rintro e w2 ⟨rfl, rfl⟩; have hY2 := (HT.out.below (bl_alloc (Below.refl _ _) (.cells (bvs (numB (sq A 1).a)).toArray 5))).drew; have HT2 := Lib.hid hY2; have hnb : (Y.alloc (.cells (bvs (numB (sq A 1).a)).toArray 5)).drew.heap[Y.heap.size]? = some (.cells (bvs (numB (sq A 1).a)).toArray 5) := heap_alloc_new Y _; have HNB := Lib.hid hnb; clear hnb hY2) | (refine step_copy_num rfl (.tmp 47) (.tmp 50) rfl (fun k => (sq A k).a) 1 gO 8 24 24 Y.heap.size rfl (by omega) (by omega) rfl rfl HT2.out.out HNB.out ?_))
                go_wp2_with fail
                go_roundw
                case rel => exact ⟨2, rfl, by omega, HT2.out.setO _⟩
                case measure => simp [intOf]
              · clear hk hlt
                go_upto_region 15 with fail
                refine wp_region_lit ?_
                refine wpList_load_row rfl 178 (.tmp 3) rfl w1.heap.size rfl 178 _ (0, 0) _ HO.out.st Tryz.underlying178 rfl arr5_info ?_
                go_wp2_with fail
                refine (sqp_any A 1 wr).mono ?_
                rintro e w2 ⟨rfl, hb2⟩
                have HY := Lib.hid (HO.out.below hb2)
                clear hb2 HO
                go_upto_region 16 with (refine wpList_store_row rfl 178 (.tmp 3) (.tmp 45) rfl w1.heap.size (sq A 2).cells rfl rfl 178 _ HY.out.st arr5_info ((St.size_cells _).trans (St.size_cells _).symm) (St.one_cells _) ?_)
                refine wp_world (fun W => SumO w W w1.heap.size gO (sq A 2) (lay (fun k => (sq A k).a) 2)) (HY.out.setS _) ?_
                simp only [Act.put]
                intro Y hY
                have HT := Lib.hid hY
                clear hY HY
                have hcS : Y.cell? ⟨w1.heap.size, 0, none⟩ = some (.int .u64 (sq A 2).a) := by rw [cell_of_row _ _ _ _ _ _ HT.out.st]; rfl
                obtain ⟨hb0, hb1⟩ := (sq_ok A HOK.out 2).1
                have hLT : w1.heap.size < Y.heap.size := (Array.getElem?_eq_some_iff.1 HT.out.st).1
                have hNE : w1.heap.size ≠ gO := Nat.ne_of_lt HT.out.lt2
                go_region_held3 (fun w' => w'.cell? ⟨w1.heap.size, 0, none⟩ = some (.int .u64 (sq A 2).a)) (first | exact hcS | exact (cell_alloc_lt Y _ _ _ hLT).trans hcS | exact (cell_setRow_ne _ _ _ _ _ hNE).trans ((cell_alloc_lt Y _ _ _ hLT).trans hcS)) (first | (go_at_call 80; refine (num_any _ _ hb0 hb1).mono ?_; rintro e w2 ⟨rfl, rfl⟩; have hY2 := (HT.out.below (bl_alloc (Below.refl _ _) (.cells (bvs (numB (sq A 2).a)).toArray 5))).drew; have HT2 := Lib.hid hY2; have hnb : (Y.alloc (.cells (bvs (numB (sq A 2).a)).toArray 5)).drew.heap[Y.heap.size]? = some (.cells (bvs (numB (sq A 2).a)).toArray 5) := heap_alloc_new Y _; have HNB := Lib.hid hnb; clear hnb hY2) | (refine step_copy_num rfl (.tmp 47) (.tmp 50) rfl (fun k => (sq A k).a) 2 gO 16 16 16 Y.heap.size rfl (by omega) (by omega) rfl rfl HT2.out.out HNB.out ?_))
                go_wp2_with fail
                go_roundw
                case rel => exact ⟨3, rfl, by omega, HT2.out.setO _⟩
                case measure => simp [intOf]
              · clear hk hlt
                go_upto_region 15 with fail
                refine wp_region_lit ?_
                refine wpList_load_row rfl 178 (.tmp 3) rfl w1.heap.size rfl 178 _ (0, 0) _ HO.out.st Tryz.underlying178 rfl arr5_info ?_
                go_wp2_with fail
                refine (sqp_any A 2 wr).mono ?_
                rintro e w2 ⟨rfl, hb2⟩
                have HY := Lib.hid (HO.out.below hb2)
                clear hb2 HO
                go_upto_region 16 with (refine wpList_store_row rfl 178 (.tmp 3) (.tmp 45) rfl w1.heap.size (sq A 3).cells rfl rfl 178 _ HY.out.st arr5_info ((St.size_cells _).trans (St.size_cells _).symm) (St.one_cells _) ?_)
                refine wp_world (fun W => SumO w W w1.heap.size gO (sq A 3) (lay (fun k => (sq A k).a) 3)) (HY.out.setS _) ?_
                simp only [Act.put]
                intro Y hY
                have HT := Lib.hid hY
                clear hY HY
                have hcS : Y.cell? ⟨w1.heap.size, 0, none⟩ = some (.int .u64 (sq A 3).a) := by rw [cell_of_row _ _ _ _ _ _ HT.out.st]; rfl
                obtain ⟨hb0, hb1⟩ := (sq_ok A HOK.out 3).1
                have hLT : w1.heap.size < Y.heap.size := (Array.getElem?_eq_some_iff.1 HT.out.st).1
                have hNE : w1.heap.size ≠ gO := Nat.ne_of_lt HT.out.lt2
                go_region_held3 (fun w' => w'.cell? ⟨w1.heap.size, 0, none⟩ = some (.int .u64 (sq A 3).a)) (first | exact hcS | exact (cell_alloc_lt Y _ _ _ hLT).trans hcS | exact (cell_setRow_ne _ _ _ _ _ hNE).trans ((cell_alloc_lt Y _ _ _ hLT).trans hcS)) (first | (go_at_call 80; refine (num_any _ _ hb0 hb1).mono ?_; rintro e w2 ⟨rfl, rfl⟩; have hY2 := (HT.out.below (bl_alloc (Below.refl _ _) (.cells (bvs (numB (sq A 3).a)).toArray 5))).drew; have HT2 := Lib.hid hY2; have hnb : (Y.alloc (.cells (bvs (numB (sq A 3).a)).toArray 5)).drew.heap[Y.heap.size]? = some (.cells (bvs (numB (sq A 3).a)).toArray 5) := heap_alloc_new Y _; have HNB := Lib.hid hnb; clear hnb hY2) | (refine step_copy_num rfl (.tmp 47) (.tmp 50) rfl (fun k => (sq A k).a) 3 gO 24 8 8 Y.heap.size rfl (by omega) (by omega) rfl rfl HT2.out.out HNB.out ?_))
                go_wp2_with fail
                go_roundw
                case rel => exact ⟨4, rfl, by omega, HT2.out.setO _⟩
                case measure => simp [intOf]
            · have hk4 : k = 4 := by omega
              subst hk4
              clear hk hlt
              go_upto_region 17 with fail
              refine wp_region_lit ?_
              refine wpList_load_row rfl 41 (.tmp 5) rfl gO rfl 41 _ (0, 0) _ HO.out.out Tryz.underlying41 rfl arr32_info ?_
              obtain ⟨z, hz, hz2⟩ := HO.out.res
              refine wpList_store_row rfl 41 (.tmp 2) (.tmp 52) rfl w.heap.size (bvs (lay (fun k => (sq A k).a) 4)).toArray rfl rfl 41 _ hz arr32_info (by rw [hz2, List.size_toArray, bvs_length, lay_length _ 4 (by omega)]) (bvs_all _) ?_
              go_wp2_with fail
              have hsum : lay (fun k => (sq A k).a) 4 = sumB l := by rw [lay_four]; unfold sumB; rw [HAA.out]; rfl
              rw [← hsum]
              refine bodyPost_ret (v := hashV (lay (fun k => (sq A k).a) 4)) (results_cell_row rfl _ _ w.heap.size 41 _ (0, 0) _ rfl (setRow_heap _ _ _ _ _ _ hz) Tryz.underlying41 rfl arr32_info) rfl ⟨rfl, below_setRow HO.out.bel (Nat.le_refl _)⟩
end Go.Proofs.YtdjcclcejmeheaaGreat
end
section
namespace Go.Proofs.YtdjcclcejmeheaaGreat
set_option linter.unusedVariables false
set_option linter.unusedSimpArgs false
open Go.RowKit
/-- The reference's twelve constants. -/
def consts : Array Value := #[.int .u64 240, .int .u64 225, .int .u64 210, .int .u64 195, .int .u64 180, .int .u64 165, .int .u64 150, .int .u64 135, .int .u64 120, .int .u64 105, .int .u64 90, .int .u64 75]
theorem consts_get (i : Nat) (h : i < 12) : consts[i]? = some (.int .u64 (240 - 15 * (i : Int))) := by
  obtain rfl | rfl | rfl | rfl | rfl | rfl | rfl | rfl | rfl | rfl | rfl | rfl : i = 0 ∨ i = 1 ∨ i = 2 ∨ i = 3 ∨ i = 4 ∨ i = 5 ∨ i = 6 ∨ i = 7 ∨ i = 8 ∨ i = 9 ∨ i = 10 ∨ i = 11 := by omega
  all_goals rfl
theorem heap_alloc3_new (w : World) (A B C : Obj) : (((w.alloc A).alloc B).alloc C).heap[w.heap.size + 1 + 1]? = some C := by
  show (((w.heap.push A).push B).push C)[w.heap.size + 1 + 1]? = some C
  rw [Array.getElem?_push, if_pos (by simp)]
structure RPerm (w : World) (s : St) (wr : World) : Prop where
  st : wr.heap[w.heap.size]? = some (.cells s.cells 178 (0, 0))
  res : ∃ z : St, wr.heap[w.heap.size + 1]? = some (.cells z.cells 178 (0, 0))
  con : wr.heap[w.heap.size + 1 + 1]? = some (.cells consts 191 (0, 0))
  bel : Below w.heap.size w wr
theorem RPerm.below {w wr w' : World} {s : St} (h : RPerm w s wr) (hb : Below wr.heap.size wr w') : RPerm w s w' := by
  obtain ⟨z, hz⟩ := h.res
  have h1 := (Array.getElem?_eq_some_iff.1 h.st).1
  have h2 := (Array.getElem?_eq_some_iff.1 hz).1
  have h3 := (Array.getElem?_eq_some_iff.1 h.con).1
  exact ⟨by rw [hb.block _ h1]; exact h.st, ⟨z, by rw [hb.block _ h2]; exact hz⟩, by rw [hb.block _ h3]; exact h.con, bl_bl h.bel hb⟩
theorem RPerm.setS {w wr : World} {s : St} (h : RPerm w s wr) (s' : St) : RPerm w s' (wr.setRow w.heap.size s'.cells) := by
  obtain ⟨z, hz⟩ := h.res
  exact ⟨setRow_heap _ _ _ _ _ _ h.st, ⟨z, by rw [setRow_other _ _ _ _ (by omega)]; exact hz⟩, by rw [setRow_other _ _ _ _ (by omega)]; exact h.con, below_setRow h.bel (Nat.le_refl _)⟩
set_option maxRecDepth 100000 in
set_option maxHeartbeats 4000000 in
theorem rperm_any (s : St) (w : World) :
    Calls Tryz.prog 131 #[.agg s.cells] w fun e w' => e = .returned (.agg (permF s).cells) ∧ Below w.heap.size w w' := by
  go_enter Tryz.func131, Tryz.ntmps131
  go_upto_region 2 with fail
  refine wp_world (fun W => RPerm w s W) ⟨?_, ⟨⟨0, 0, 0, 0, 0⟩, ?_⟩, heap_alloc3_new _ _ _ _, bl_alloc (bl_alloc (bl_alloc (Below.refl _ _) _) _) _⟩ ?_
  · rw [heap_alloc_old _ _ (by simp; omega), heap_alloc_old _ _ (by simp)]; exact heap_alloc_new _ _
  · exact heap_alloc3_mid _ _ _ _
  intro W hW
  go_wp2_with fail
  go_loopw [4] (fun v4 wr => ∃ i : Nat, v4 = .int .i64 i ∧ i ≤ 12 ∧ RPerm w (permN s i) wr) (fun v4 _ => 12 - (intOf v4).toNat)
  case atStart => exact ⟨0, rfl, by omega, hW⟩
  case round =>
    clear hW
    obtain ⟨i, rfl, hi, hR⟩ := hrel
    have HR := Lib.hid hR
    clear hR
    by_cases hlt : i < 12
    · go_upto_region 5 with fail
      have hcc : wr.cell? ⟨w.heap.size + 1 + 1, i, none⟩ = some (.int .u64 (240 - 15 * (i : Int))) := by rw [cell_of_row _ _ _ _ _ _ HR.out.con]; exact consts_get i hlt
      refine region_quiet_tail (C := fun w' => ∃ n, w' = wr.drewN n) 4 (by kernel_rfl) (by kernel_rfl) ⟨1, rfl⟩ ?_
      simp only [List.take_succ_cons, List.take_zero, List.drop_succ_cons, List.drop_zero]
      refine wpQuiet_load_row rfl 178 (.tmp 1) rfl w.heap.size rfl 178 (permN s i).cells (0, 0) _ (fun w' hw' => by obtain ⟨n, rfl⟩ := hw'; exact HR.out.st) Tryz.underlying178 rfl arr5_info ?_
      simp only [Act.put, List.setIfInBounds_toArray, List.set_cons_succ, List.set_cons_zero]
      repeat (go_big_quiet_step (fail))
      refine wpQuiet_nil ?_
      intro W' hW'
      obtain ⟨nq, rfl⟩ := hW'
      go_wp2_with fail
      refine (rround_any (permN s i) _ _).mono ?_
      rintro e w1 ⟨rfl, hb1⟩
      have HY := Lib.hid ((HR.out.below (bl_drewN (Below.refl _ _) nq)).below hb1)
      clear hb1 HR hcc
      go_wp2_with (refine wpList_store_row rfl 178 (.tmp 1) (.tmp 14) rfl w.heap.size (permN s (i + 1)).cells rfl rfl 178 _ HY.out.st arr5_info ((St.size_cells _).trans (St.size_cells _).symm) (St.one_cells _) ?_)
      go_roundw
      case rel => exact ⟨i + 1, by go_num, by omega, HY.out.setS _⟩
      case measure => simp [intOf]; omega
    · have : i = 12 := by omega
      subst this
      go_upto_region 6 with fail
      refine wp_region_lit ?_
      refine wpList_load_row rfl 178 (.tmp 1) rfl w.heap.size rfl 178 _ (0, 0) _ HR.out.st Tryz.underlying178 rfl arr5_info ?_
      obtain ⟨z, hz⟩ := HR.out.res
      refine wpList_store_row rfl 178 (.tmp 2) (.tmp 15) rfl (w.heap.size + 1) (permN s 12).cells rfl rfl 178 _ hz arr5_info ((St.size_cells _).trans (St.size_cells _).symm) (St.one_cells _) ?_
      go_wp2_with fail
      refine bodyPost_ret (v := .agg (permF s).cells) (results_cell_row rfl _ _ (w.heap.size + 1) 178 _ (0, 0) _ rfl (setRow_heap _ _ _ _ _ _ hz) Tryz.underlying178 rfl arr5_info) rfl ⟨rfl, below_setRow HR.out.bel (by omega)⟩
end Go.Proofs.YtdjcclcejmeheaaGreat
end
section
namespace Go.Proofs.YtdjcclcejmeheaaGreat
set_option linter.unusedVariables false
set_option linter.unusedSimpArgs false
open Go.RowKit
/-- What the reference's Sum holds while it pads. -/
structure RSumA (w wr : World) (v : Value) (l : List UInt8) : Prop where
  res : ∃ z, wr.heap[w.heap.size]? = some (.cells z 41 (0, 0)) ∧ z.size = 32
  own : Own wr (w.heap.size + 1) v l
  bel : Below w.heap.size w wr
theorem RSumA.grown {w wr w' : World} {v v' : Value} {l l' : List UInt8} (h : RSumA w wr v l) (hg : wr.grownBy w' v.ownBlock) (ho : Own w' (w.heap.size + 1) v' l') : RSumA w w' v' l' := by
  have hr := h.own.row
  obtain ⟨z, hz, hz2⟩ := h.res
  have h1 := (Array.getElem?_eq_some_iff.1 hz).1
  refine ⟨⟨z, ?_, hz2⟩, ho, below_grown h.bel hg (fun k hk => by have := hr k hk; omega)⟩
  rw [hg.block _ h1 (fun e => by have := hr _ e.symm; omega)]; exact hz
theorem RSumA.below {w wr w' : World} {v : Value} {l : List UInt8} (h : RSumA w wr v l) (hb : Below wr.heap.size wr w') : RSumA w w' v l := by
  obtain ⟨z, hz, hz2⟩ := h.res
  have h1 := (Array.getElem?_eq_some_iff.1 hz).1
  exact ⟨⟨z, by rw [hb.block _ h1]; exact hz, hz2⟩, h.own.below hb, bl_bl h.bel hb⟩
theorem RSumA.size {w wr : World} {v : Value} {l : List UInt8} (h : RSumA w wr v l) : w.heap.size + 1 ≤ wr.heap.size := by
  obtain ⟨z, hz, _⟩ := h.res
  exact (Array.getElem?_eq_some_iff.1 hz).1
/-- What it holds while it absorbs: x is the world in which the state's block was made. -/
structure RSumB (w x wr : World) (s : St) (v : Value) (l : List UInt8) : Prop where
  old : RSumA w x v l
  st : wr.heap[x.heap.size]? = some (.cells s.cells 178 (0, 0))
  bel : Below x.heap.size x wr
theorem RSumB.rd {w x wr : World} {s : St} {v : Value} {l : List UInt8} (h : RSumB w x wr s v l) : Rd wr v l := h.old.own.rd.below h.bel
theorem RSumB.below {w x wr w' : World} {s : St} {v : Value} {l : List UInt8} (h : RSumB w x wr s v l) (hb : Below wr.heap.size wr w') : RSumB w x w' s v l :=
  ⟨h.old, by rw [hb.block _ (Array.getElem?_eq_some_iff.1 h.st).1]; exact h.st, bl_bl h.bel hb⟩
theorem RSumB.setS {w x wr : World} {s : St} {v : Value} {l : List UInt8} (h : RSumB w x wr s v l) (s' : St) : RSumB w x (wr.setRow x.heap.size s'.cells) s' v l :=
  ⟨h.old, setRow_heap _ _ _ _ _ _ h.st, below_setRow h.bel (Nat.le_refl _)⟩
theorem RSumB.setA {w x wr : World} {s : St} {v : Value} {l : List UInt8} (h : RSumB w x wr s v l) (n : Nat) (y : Int) : RSumB w x ((wr.drewN n).setCell ⟨x.heap.size, 0, none⟩ (.int .u64 y)) ⟨y, s.b, s.c, s.d, s.e⟩ v l := by
  refine ⟨h.old, ?_, (bl_drewN h.bel n).setCell (Nat.le_refl _) _⟩
  rw [← St.set_a]
  exact heap_setCell_same _ _ _ _ _ _ h.st
theorem RSumB.toO {w x wr : World} {s : St} {v : Value} {l : List UInt8} (h : RSumB w x wr s v l) (b : List UInt8) : SumO w (wr.alloc (.cells (bvs b).toArray 41)) x.heap.size wr.heap.size s b := by
  obtain ⟨z, hz, hz2⟩ := h.old.res
  have h1 := (Array.getElem?_eq_some_iff.1 hz).1
  have h2 := (Array.getElem?_eq_some_iff.1 h.st).1
  have h3 := h.bel.size
  exact ⟨⟨z, by rw [heap_alloc_old _ _ (by omega), h.bel.block _ h1]; exact hz, hz2⟩, by rw [heap_alloc_old _ _ h2]; exact h.st, heap_alloc_new _ _, bl_alloc (h.old.bel.trans (h.bel.mono h.old.bel.size)) _, h1, h2⟩
/-- The bytes laid so far, j of the k-th word's eight with them. -/
def outP (f : Nat → Int) (k j : Nat) : List UInt8 := (lay f k).take (8 * k) ++ ((numB (f k)).take j ++ (lay f k).drop (8 * k + j))
theorem outP_zero (f : Nat → Int) (k : Nat) : outP f k 0 = lay f k := by simp [outP]
theorem outP_eight (f : Nat → Int) (k : Nat) : outP f k 8 = lay f (k + 1) := by
  rw [show lay f (k + 1) = (lay f k).take (8 * k) ++ (numB (f k) ++ (lay f k).drop (8 * k + 8)) from rfl]
  unfold outP
  rw [List.take_of_length_le (Nat.le_of_eq (numB_length _))]
theorem outP_length (f : Nat → Int) (k j : Nat) (hk : k < 4) (hj : j ≤ 8) : (outP f k j).length = 32 := by
  simp only [outP, List.length_append, List.length_take, List.length_drop, lay_length f k (by omega), numB_length]; omega
theorem set_part {α : Type} (L M : List α) (b j : Nat) (hj : j < M.length) (hb : b + j < L.length) :
    (L.take b ++ (M.take j ++ L.drop (b + j))).set (b + j) M[j] = L.take b ++ (M.take (j + 1) ++ L.drop (b + (j + 1))) := by
  have h1 : (L.take b).length = b := by rw [List.length_take]; omega
  have h2 : (M.take j).length = j := by rw [List.length_take]; omega
  rw [List.set_append_right _ _ (by omega), h1, show b + j - b = j by omega, List.set_append_right _ _ (by omega), h2, Nat.sub_self, List.drop_eq_getElem_cons hb, List.set_cons_zero, List.take_succ_eq_append_getElem hj, List.append_assoc]
  rfl
theorem rd_cell {w : World} {g n c : Nat} {l : List UInt8} (h : Rd w (.slice (some ⟨g, 0, none⟩) n c) l) (j : Nat) (hj : j < l.length) : w.cell? ⟨g, j, none⟩ = some (.int .u8 (l[j].toNat : Int)) := by
  rcases h with ⟨h, _⟩ | ⟨b, o, c', h, _, _, hc⟩
  · simp at h
  · simp at h
    obtain ⟨⟨rfl, rfl⟩, rfl, rfl⟩ := h
    have := hc j hj
    rw [Nat.zero_add] at this
    exact this
theorem outP_step (f : Nat → Int) (k j : Nat) (hk : k < 4) (hj : j < (numB (f k)).length) :
    (bvs (outP f k j)).toArray.setIfInBounds (8 * k + j) (bv (numB (f k))[j]) = (bvs (outP f k (j + 1))).toArray := by
  have h := set_part (lay f k) (numB (f k)) (8 * k) j hj (by rw [lay_length f k (by omega)]; rw [numB_length] at hj; omega)
  rw [List.setIfInBounds_toArray]
  unfold outP bvs
  rw [← h, List.map_set]
set_option maxRecDepth 100000 in
set_option maxHeartbeats 4000000 in
theorem rsum_any (v : Value) (l : List UInt8) (w : World) (hv : Rd w v l) (hl : l.length ≤ 549755813888) :
    Calls Tryz.prog 90 #[v] w fun e w' => e = .returned (hashV (sumB l)) ∧ Below w.heap.size w w' := by
  obtain ⟨a, c, rfl⟩ := hv.shape
  have HV := Lib.hid hv
  clear hv
  go_enter Tryz.func90, Tryz.ntmps90
  go_upto_region 1 with fail
  refine wp_world (fun W => RSumA w W (.slice none 0 0) [] ∧ Rd W (.slice a l.length c) l) ⟨⟨⟨_, heap_alloc_new _ _, rfl⟩, Own.nil _ _, bl_alloc (Below.refl _ _) _⟩, HV.out.below (bl_alloc (Below.refl _ _) _)⟩ ?_
  rintro W ⟨hI, hV⟩
  have HI := Lib.hid hI
  have HV := Lib.hid hV
  clear hI hV
  go_wp2_with (first
    | (at_builtin; refine wpList_append_bytes rfl (.const (.slice none 0 0)) (.tmp 10) rfl (w.heap.size + 1) rfl rfl HI.out.own HV.out (by simp; omega) HI.out.size ?_; intro v1 W1 ho1 hg1; have HI1 := Lib.hid (HI.out.grown hg1 ho1); clear ho1 hg1)
    | (at_builtin; refine wpList_append_bytes rfl (.tmp 11) (.tmp 12) rfl (w.heap.size + 1) rfl rfl (HI1.out.own.alloc _) (rd_one _ 1 (by omega) (by omega)) (by simp; omega) (by have := HI1.out.size; simp; omega) ?_; intro v2 W2 ho2 hg2; have HI2 := Lib.hid ((HI1.out.below (bl_alloc (Below.refl _ _) _)).grown hg2 ho2); clear ho2 hg2))
  have HI3 := Lib.hid HI2.out
  clear HI HI1 HI2
  have hm : (l ++ [(1 : UInt8)]).length = l.length + 1 := by simp
  generalize hM : l ++ [(1 : UInt8)] = M at *
  have HM := Lib.hid hM
  have HM2 := Lib.hid hm
  clear hM hm
  go_loopw [3] (fun v0 wr => ∃ k : Nat, k ≤ zerosFor M.length ∧ RSumA w wr v0 (M ++ List.replicate k 0)) (fun v0 _ => (8 - lenV v0 % 8) % 8)
  case atStart => exact ⟨0, by omega, by have h := HI3.out; rw [byt_one, List.nil_append, HM.out] at h; rw [List.replicate_zero, List.append_nil]; exact h⟩
  case round =>
    obtain ⟨k, hk, hI⟩ := hrel
    have hlen : (M ++ List.replicate k (0 : UInt8)).length = M.length + k := by simp
    generalize hq : M ++ List.replicate k (0 : UInt8) = q at *
    obtain ⟨a0, c0, rfl⟩ := hI.own.rd.shape
    have HI := Lib.hid hI
    have HLEN := Lib.hid hlen
    have HQ := Lib.hid hq
    clear hI hq
    by_cases hlt : k < zerosFor M.length
    · have hne : ((q.length : Int) % 8 != 0) = true := by
        rw [bne_iff_ne, hlen]; unfold zerosFor at hlt; omega
      have hb : q.length ≤ 549755813900 := by
        rw [hlen]; have := HM2.out; unfold zerosFor at hlt; omega
      clear hlen
      go_wp2_with (at_builtin; refine wpList_append_bytes rfl (.tmp 18) (.tmp 19) rfl (w.heap.size + 1) rfl rfl (HI.out.own.alloc _) (rd_one _ 0 (by omega) (by omega)) (by simp only [List.length_cons, List.length_nil]; omega) (by have := HI.out.size; simp; omega) ?_; intro v2 W2 ho2 hg2; have HI2 := Lib.hid ((HI.out.below (bl_alloc (Below.refl _ _) _)).grown hg2 ho2); clear ho2 hg2)
      go_roundw
      case rel => exact ⟨k + 1, by omega, by rw [← rep_snoc, HQ.out]; exact HI2.out⟩
      case measure =>
        obtain ⟨a2, c2, h2⟩ := HI2.out.own.rd.shape
        rw [h2]
        have h3 := HLEN.out
        simp only [lenV, List.length_append, List.length_cons, List.length_nil] at *
        unfold zerosFor at hlt
        omega
    · have hk2 : k = zerosFor M.length := by omega
      have hne : ((q.length : Int) % 8 != 0) = false := by
        rw [bne_eq_false_iff_eq, hlen, hk2]; unfold zerosFor; omega
      have hpad : q = padB l := by rw [← HQ.out, hk2, HM2.out, ← HM.out]; rfl
      have hq8 := padB_mod l
      have hqb := padB_len l
      rw [← hpad] at hq8 hqb
      have HP := Lib.hid hpad
      have HQ8 := Lib.hid hq8
      clear hlen hpad hk2 hq8
      go_wp2_with fail
      refine (rperm_any ⟨8800401358850, 0, 0, 0, 0⟩ _).mono ?_
      rintro e w1 ⟨rfl, hb1⟩
      have HA := Lib.hid (HI.out.below hb1)
      clear hb1
      have hst := heap_alloc_new w1 (.cells #[.int .u64 0, .int .u64 0, .int .u64 0, .int .u64 0, .int .u64 0] 178)
      have HST := Lib.hid hst
      have hB := RSumB.mk HA.out (setRow_heap _ _ _ st0.cells _ _ hst) (below_setRow (bl_alloc (Below.refl _ _) _) (Nat.le_refl _))
      have HB := Lib.hid hB
      clear hst hB
      go_upto_region 5 with (refine wpList_store_row rfl 178 (.tmp 4) (.tmp 22) rfl w1.heap.size st0.cells rfl rfl 178 _ HST.out arr5_info (St.size_cells _).symm (St.one_cells _) ?_)
      simp only [Act.put]
      refine wp_world (fun W => RSumB w w1 W st0 (.slice a0 q.length c0) q) HB.out ?_
      intro X hX
      have ha0 : ∃ b0, a0 = some ⟨b0, 0, none⟩ := by
        rcases HI.out.own.2 with ⟨h, hn⟩ | ⟨g, cap, cur, h, _⟩
        · exfalso; have h3 := HLEN.out; rw [HM2.out] at h3; omega
        · simp at h; exact ⟨g, h.1⟩
      obtain ⟨b0, rfl⟩ := ha0
      have HX0 := Lib.hid hX
      clear hX HB HST
      go_wp2_with fail
      go_loopw [5] (fun v4 wr => ∃ n : Nat, v4 = .int .i64 ((8 * n : Nat) : Int) ∧ 8 * n ≤ q.length ∧ RSumB w w1 wr (absorbN q n) (.slice (some ⟨b0, 0, none⟩) q.length c0) q) (fun v4 _ => q.length - (intOf v4).toNat)
      case atStart => exact ⟨0, rfl, by omega, HX0.out⟩
      case round =>
        obtain ⟨n, rfl, hn, hJ⟩ := hrel
        have HJ := Lib.hid hJ
        clear hJ
        have hqb2 : q.length ≤ 549755813896 := by omega
        by_cases hlt : 8 * n < q.length
        · have hr := HJ.out.rd
          have hc0 : q.length ≤ c0 := by
            rcases hr with ⟨h, h'⟩ | ⟨b', o', c', h, hc, _⟩
            · simp at h
            · simp at h; omega
          have hge : 8 * n + 8 ≤ q.length := by have := HQ8.out; omega
          obtain ⟨j, hj⟩ : ∃ j, j = 8 * n := ⟨_, rfl⟩
          rw [← hj] at hlt hge
          rw [← hj]
          have HJJ := Lib.hid hj
          clear hj hr
          go_upto_region 8 with fail
          have hcS : wr.cell? ⟨w1.heap.size, 0, none⟩ = some (.int .u64 (absorbN q n).a) := by rw [cell_of_row _ _ _ _ _ _ HJ.out.st]; rfl
          have hfS : wr.frozen? ⟨w1.heap.size, 0, none⟩ = false := frozen_of_row _ _ _ _ _ HJ.out.st
          have hRD : Rd wr (.slice (some ⟨b0, j, none⟩) 8 (c0 - j)) ((q.drop j).take 8) := by
            have h1 := HJ.out.rd.drop j (by omega) ⟨b0, j, none⟩ (fun _ => by rw [Nat.zero_add]) ⟨_, _, rfl⟩
            rw [← List.length_drop] at h1
            exact h1.take 8 (by rw [List.length_drop]; omega)
          have hle8 : ((q.drop j).take 8).length = 8 := by rw [List.length_take, List.length_drop]; omega
          have HRD := Lib.hid hRD
          have HLE8 := Lib.hid hle8
          clear hRD hle8
          refine region_quiet_tail (C := fun w' => ∃ n, w' = wr.drewN n) 10 (by kernel_rfl) (by kernel_rfl) ⟨1, rfl⟩ ?_
          simp only [List.take_succ_cons, List.take_zero, List.drop_succ_cons, List.drop_zero]
          repeat (go_big_quiet_step ((go_at_call 128; exact Calls.quiet_of_same ((rword_any _ _ _ (Rd.drewN HRD.out _) HLE8.out).mono fun _ _ ⟨h, k⟩ => ⟨h, k.symm⟩))))
          refine wpQuiet_nil ?_
          intro W' hW'
          obtain ⟨nq, rfl⟩ := hW'
          go_upto_region 9 with fail
          refine wp_world (fun W => RSumB w w1 W ⟨bxor (absorbN q n).a (leNum ((q.drop j).take 8)), (absorbN q n).b, (absorbN q n).c, (absorbN q n).d, (absorbN q n).e⟩ (.slice (some ⟨b0, 0, none⟩) q.length c0) q) (HJ.out.setA _ _) ?_
          intro X hX
          have HX := Lib.hid hX
          clear hX hcS hfS
          refine wp_region_lit ?_
          refine wpList_load_row rfl 178 (.tmp 4) rfl w1.heap.size rfl 178 _ (0, 0) _ HX.out.st Tryz.underlying178 rfl arr5_info ?_
          go_wp2_with fail
          have hnext : permF ⟨bxor (absorbN q n).a (leNum ((q.drop j).take 8)), (absorbN q n).b, (absorbN q n).c, (absorbN q n).d, (absorbN q n).e⟩ = absorbN q (n + 1) := by rw [HJJ.out]; rfl
          have hperm := rperm_any ⟨bxor (absorbN q n).a (leNum ((q.drop j).take 8)), (absorbN q n).b, (absorbN q n).c, (absorbN q n).d, (absorbN q n).e⟩ X
          rw [hnext] at hperm
          clear hnext
          refine hperm.mono ?_
          rintro e w2 ⟨rfl, hb2⟩
          have HY := Lib.hid (HX.out.below hb2)
          clear hb2
          go_wp2_with (refine wpList_store_row rfl 178 (.tmp 4) (.tmp 40) rfl w1.heap.size (absorbN q (n + 1)).cells rfl rfl 178 _ HY.out.st arr5_info ((St.size_cells _).trans (St.size_cells _).symm) (St.one_cells _) ?_)
          go_roundw
          case rel => exact ⟨n + 1, by rw [HJJ.out]; go_num, by have := HJJ.out; omega, HY.out.setS _⟩
          case measure => simp [intOf]; omega
        · have hqn : 8 * n = q.length := by omega
          go_upto_region 10 with fail
          have hA : absorbN q n = absorb l := by
            have h := HP.out
            unfold absorb
            rw [← h, ← hqn, Nat.mul_div_cancel_left _ (by omega)]
          have HJ2 := Lib.hid (hA ▸ HJ.out)
          clear HJ hA
          have HO := Lib.hid (HJ2.out.toO (lay (fun k => (sq (absorb l) k).a) 0))
          clear HP HQ8 HQ HLEN hne hqb hn hlt hqn
          generalize hAA : absorb l = A at *
          have hok : A.ok := by rw [← hAA]; exact absorb_ok l
          have HOK := Lib.hid hok
          have HAA := Lib.hid hAA
          clear hok hAA
          go_upto_region 11 with fail
          generalize wr.heap.size = gO at HO ⊢
          generalize ((8 * n : Nat) : Int) = n4
          refine wp_world (fun W => SumO w W w1.heap.size gO A (lay (fun k => (sq A k).a) 0)) HO.out ?_
          intro X hX
          clear HO HJ2
          go_wp2_with fail
          go_loopw [7, 8] (fun v7 v8 wr => ∃ k : Nat, v7 = .int .i64 (k : Int) ∧ k ≤ 4 ∧ SumO w wr w1.heap.size gO (sq A (k - 1)) (lay (fun k => (sq A k).a) k)) (fun v7 _ _ => 4 - (intOf v7).toNat)
          case atStart => exact ⟨0, rfl, by omega, hX⟩
          case round =>
            obtain ⟨k, rfl, hk, hO⟩ := hrel
            have HO := Lib.hid hO
            clear hO
            by_cases hlt : k < 4
            · by_cases h0 : k = 0
              · subst h0
                go_upto_region 16 with fail
                refine wp_world (fun W => SumO w W w1.heap.size gO (sq A 0) (lay (fun k => (sq A k).a) 0)) HO.out ?_
                intro Y hY
                have HT := Lib.hid hY
                clear hY
                have hcS : Y.cell? ⟨w1.heap.size, 0, none⟩ = some (.int .u64 (sq A 0).a) := by rw [cell_of_row _ _ _ _ _ _ HT.out.st]; rfl
                obtain ⟨hb0, hb1⟩ := (sq_ok A HOK.out 0).1
                go_wp2_with fail
                refine (rnum_any _ _ hb0 hb1).mono ?_
                rintro e w2 ⟨u, rfl, hu, hb2⟩
                have hgt : ∀ g', u.ownBlock = some g' → gO < g' := fun g' hg' => Nat.lt_of_lt_of_le (Array.getElem?_eq_some_iff.1 HT.out.out).1 (hu.row g' hg')
                obtain ⟨g, cu, rfl⟩ : ∃ g cu, u = .slice (some ⟨g, 0, none⟩) 8 cu := by
                  rcases hu.2 with ⟨_, hn⟩ | ⟨g, cap, cur, h, _⟩
                  · cases hn
                  · exact ⟨g, cap, h⟩
                have hgO : g ≠ gO := Nat.ne_of_gt (hgt g rfl)
                have HG := Lib.hid hgO
                have HU := Lib.hid hu.rd
                have HY := Lib.hid (HT.out.below hb2)
                clear hcS hb0 hb1 hb2 hgt hu HT hgO
                go_wp2_with fail
                go_loopw [9] (fun v9 wr => ∃ j : Nat, v9 = .int .i64 (j : Int) ∧ j ≤ 8 ∧ wr = w2.setRow gO (bvs (outP (fun k => (sq A k).a) 0 j)).toArray) (fun v9 _ => 8 - (intOf v9).toNat)
                case atStart => exact ⟨0, rfl, by omega, by rw [outP_zero]; exact (setRow_self _ _ _ _ _ HY.out.out).symm⟩
                case round =>
                  obtain ⟨j, rfl, hj, hW⟩ := hrel
                  have hrow := setRow_heap w2 gO _ (bvs (outP (fun k => (sq A k).a) 0 j)).toArray _ _ HY.out.out
                  rw [← hW] at hrow
                  by_cases hlt2 : j < 8
                  · have hc1 : wr.cell? ⟨g, j, none⟩ = some (.int .u8 ((((numB (sq A 0).a)[j]'(by rw [numB_length]; exact hlt2)).toNat : Nat) : Int)) := by
                      rw [hW, cell_setRow_ne _ _ _ _ _ HG.out]
                      exact rd_cell HU.out j _
                    obtain ⟨x, hc2⟩ : ∃ x, wr.cell? ⟨gO, j, none⟩ = some x := by
                      rw [cell_of_row _ _ _ _ _ _ hrow]
                      exact ⟨_, Array.getElem?_eq_getElem (by rw [List.size_toArray, bvs_length, outP_length _ _ _ (by omega) (by omega)]; omega)⟩
                    have hf2 : wr.frozen? ⟨gO, j, none⟩ = false := frozen_of_row _ _ _ _ _ hrow
                    have HROW := Lib.hid hrow
                    have HW := Lib.hid hW
                    clear hrow hW
                    go_wp2_with fail
                    go_roundw
                    case rel =>
                      refine ⟨j + 1, by go_num, by omega, ?_⟩
                      rw [setCell_eq_setRow wr gO j _ _ _ _ HROW.out, HW.out, setRow_setRow]
                      have hst := outP_step (fun k => (sq A k).a) 0 j (by omega) (by rw [numB_length]; exact hlt2)
                      rw [show 8 * 0 + j = j by omega] at hst
                      exact congrArg _ hst
                    case measure => first | (simp [intOf]; done) | (simp [intOf]; omega)
                  · have hj8 : j = 8 := by omega
                    subst hj8
                    clear hrow
                    rw [outP_eight] at hW
                    have HW := Lib.hid hW
                    clear hW
                    go_wp2_with fail
                    go_roundw
                    case rel => exact ⟨0 + 1, by go_num, by omega, by rw [HW.out]; exact HY.out.setO _⟩
                    case measure => first | (simp [intOf]; done) | (simp [intOf]; omega)
              · have hk0 : 0 < k := by omega
                go_upto_region 15 with fail
                refine wp_region_lit ?_
                refine wpList_load_row rfl 178 (.tmp 4) rfl w1.heap.size rfl 178 _ (0, 0) _ HO.out.st Tryz.underlying178 rfl arr5_info ?_
                go_wp2_with fail
                have hperm := rperm_any (sq A (k - 1)) wr
                have hnext : permF (sq A (k - 1)) = sq A k := by obtain ⟨i, rfl⟩ : ∃ i, k = i + 1 := ⟨k - 1, by omega⟩; rfl
                rw [hnext] at hperm
                clear hnext
                refine hperm.mono ?_
                rintro e w2 ⟨rfl, hb2⟩
                have HY := Lib.hid (HO.out.below hb2)
                clear hb2 HO
                go_upto_region 16 with (refine wpList_store_row rfl 178 (.tmp 4) (.tmp 48) rfl w1.heap.size (sq A k).cells rfl rfl 178 _ HY.out.st arr5_info ((St.size_cells _).trans (St.size_cells _).symm) (St.one_cells _) ?_)
                refine wp_world (fun W => SumO w W w1.heap.size gO (sq A k) (lay (fun k => (sq A k).a) k)) (HY.out.setS _) ?_
                simp only [Act.put]
                intro Y hY
                have HT := Lib.hid hY
                clear hY
                have hcS : Y.cell? ⟨w1.heap.size, 0, none⟩ = some (.int .u64 (sq A k).a) := by rw [cell_of_row _ _ _ _ _ _ HT.out.st]; rfl
                obtain ⟨hb0, hb1⟩ := (sq_ok A HOK.out k).1
                go_wp2_with fail
                refine (rnum_any _ _ hb0 hb1).mono ?_
                rintro e w2 ⟨u, rfl, hu, hb2⟩
                have hgt : ∀ g', u.ownBlock = some g' → gO < g' := fun g' hg' => Nat.lt_of_lt_of_le (Array.getElem?_eq_some_iff.1 HT.out.out).1 (hu.row g' hg')
                obtain ⟨g, cu, rfl⟩ : ∃ g cu, u = .slice (some ⟨g, 0, none⟩) 8 cu := by
                  rcases hu.2 with ⟨_, hn⟩ | ⟨g, cap, cur, h, _⟩
                  · cases hn
                  · exact ⟨g, cap, h⟩
                have hgO : g ≠ gO := Nat.ne_of_gt (hgt g rfl)
                have HG := Lib.hid hgO
                have HU := Lib.hid hu.rd
                have HY := Lib.hid (HT.out.below hb2)
                clear hcS hb0 hb1 hb2 hgt hu HT hgO
                go_wp2_with fail
                go_loopw [9] (fun v9 wr => ∃ j : Nat, v9 = .int .i64 (j : Int) ∧ j ≤ 8 ∧ wr = w2.setRow gO (bvs (outP (fun k => (sq A k).a) k j)).toArray) (fun v9 _ => 8 - (intOf v9).toNat)
                case atStart => exact ⟨0, rfl, by omega, by rw [outP_zero]; exact (setRow_self _ _ _ _ _ HY.out.out).symm⟩
                case round =>
                  obtain ⟨j, rfl, hj, hW⟩ := hrel
                  have hrow := setRow_heap w2 gO _ (bvs (outP (fun k => (sq A k).a) k j)).toArray _ _ HY.out.out
                  rw [← hW] at hrow
                  by_cases hlt2 : j < 8
                  · have hc1 : wr.cell? ⟨g, j, none⟩ = some (.int .u8 ((((numB (sq A k).a)[j]'(by rw [numB_length]; exact hlt2)).toNat : Nat) : Int)) := by
                      rw [hW, cell_setRow_ne _ _ _ _ _ HG.out]
                      exact rd_cell HU.out j _
                    obtain ⟨x, hc2⟩ : ∃ x, wr.cell? ⟨gO, 8 * k + j, none⟩ = some x := by
                      rw [cell_of_row _ _ _ _ _ _ hrow]
                      exact ⟨_, Array.getElem?_eq_getElem (by rw [List.size_toArray, bvs_length, outP_length _ _ _ (by omega) (by omega)]; omega)⟩
                    have hf2 : wr.frozen? ⟨gO, 8 * k + j, none⟩ = false := frozen_of_row _ _ _ _ _ hrow
                    have hx : (8 * (k : Int) + (j : Int)).toNat = 8 * k + j := by omega
                    have HROW := Lib.hid hrow
                    have HW := Lib.hid hW
                    clear hrow hW
                    go_wp2_with fail
                    go_roundw
                    case rel =>
                      refine ⟨j + 1, by go_num, by omega, ?_⟩
                      rw [setCell_eq_setRow wr gO (8 * k + j) _ _ _ _ HROW.out, HW.out, setRow_setRow]
                      exact congrArg _ (outP_step (fun k => (sq A k).a) k j (by omega) (by rw [numB_length]; exact hlt2))
                    case measure => simp [intOf]; omega
                  · have hj8 : j = 8 := by omega
                    subst hj8
                    clear hrow
                    rw [outP_eight] at hW
                    have HW := Lib.hid hW
                    clear hW
                    go_wp2_with fail
                    go_roundw
                    case rel => exact ⟨k + 1, by go_num, by omega, by rw [HW.out]; exact HY.out.setO _⟩
                    case measure => simp [intOf]; omega
            · have hk4 : k = 4 := by omega
              subst hk4
              clear hk hlt
              go_upto_region 21 with fail
              refine wp_region_lit ?_
              refine wpList_load_row rfl 41 (.tmp 6) rfl gO rfl 41 _ (0, 0) _ HO.out.out Tryz.underlying41 rfl arr32_info ?_
              obtain ⟨z, hz, hz2⟩ := HO.out.res
              refine wpList_store_row rfl 41 (.tmp 2) (.tmp 65) rfl w.heap.size (bvs (lay (fun k => (sq A k).a) 4)).toArray rfl rfl 41 _ hz arr32_info (by rw [hz2, List.size_toArray, bvs_length, lay_length _ 4 (by omega)]) (bvs_all _) ?_
              go_wp2_with fail
              have hsum : lay (fun k => (sq A k).a) 4 = sumB l := by rw [lay_four]; unfold sumB; rw [HAA.out]; rfl
              rw [← hsum]
              refine bodyPost_ret (v := hashV (lay (fun k => (sq A k).a) 4)) (results_cell_row rfl _ _ w.heap.size 41 _ (0, 0) _ rfl (setRow_heap _ _ _ _ _ _ hz) Tryz.underlying41 rfl arr32_info) rfl ⟨rfl, below_setRow HO.out.bel (Nat.le_refl _)⟩
end Go.Proofs.YtdjcclcejmeheaaGreat
end
section
namespace Go.Proofs.YtdjcclcejmeheaaGreat
set_option linter.unusedVariables false
set_option linter.unusedSimpArgs false
open Go.RowKit
set_option maxRecDepth 100000 in
set_option maxHeartbeats 4000000 in
theorem tag_any (tag : Int) (v : Value) (ls : List (List UInt8)) (w : World) (h0 : 0 ≤ tag) (h1 : tag < 256) (hv : RdL w v ls) (hl : textLen ls ≤ 549755813888) :
    Calls Tryz.prog 79 #[.int .u8 tag, v] w fun e w' => e = .returned (hashV (sumB (textB tag ls))) ∧ Below w.heap.size w w' := by
  have HV := Lib.hid hv
  clear hv
  go_enter Tryz.func79, Tryz.ntmps79
  go_upto_region 1 with fail
  refine wp_world (fun W => (∃ z, W.heap[w.heap.size]? = some (.cells z 41 (0, 0)) ∧ z.size = 32) ∧ RdL W v ls ∧ Below w.heap.size w W) ⟨⟨_, heap_alloc_new _ _, rfl⟩, HV.out.below (bl_alloc (Below.refl _ _) _), bl_alloc (Below.refl _ _) _⟩ ?_
  rintro W ⟨⟨z, hz, hz2⟩, hV, hB⟩
  have HV := Lib.hid hV
  have HB := Lib.hid hB
  have HZ := Lib.hid hz
  clear hV hB hz
  go_wp2_with fail
  refine (text_any tag v ls W h0 h1 HV.out hl).mono ?_
  rintro e w1 ⟨u, rfl, hu, hb1⟩
  have HU := Lib.hid hu.rd
  have HB1 := Lib.hid (bl_bl HB.out hb1)
  have hz1 : w1.heap[w.heap.size]? = some (.cells z 41 (0, 0)) := by rw [hb1.block _ (Array.getElem?_eq_some_iff.1 HZ.out).1]; exact HZ.out
  have HZ1 := Lib.hid hz1
  clear hu hb1 hz1
  go_wp2_with fail
  refine (sum_any u (textB tag ls) w1 HU.out (by rw [textB_len]; exact hl)).mono ?_
  rintro e w2 ⟨rfl, hb2⟩
  have hz2' : w2.heap[w.heap.size]? = some (.cells z 41 (0, 0)) := by rw [hb2.block _ (Array.getElem?_eq_some_iff.1 HZ1.out).1]; exact HZ1.out
  have HZ2 := Lib.hid hz2'
  have HB2 := Lib.hid (bl_bl HB1.out hb2)
  clear hb2 hz2'
  go_wp2_with (refine wpList_store_row rfl 41 (.tmp 4) (.tmp 8) rfl w.heap.size (bvs (sumB (textB tag ls))).toArray rfl rfl 41 _ HZ2.out arr32_info (by rw [hz2, List.size_toArray, bvs_length, sumB_length]) (bvs_all _) ?_)
  refine bodyPost_ret (v := hashV (sumB (textB tag ls))) (results_cell_row rfl _ _ w.heap.size 41 _ (0, 0) _ rfl (setRow_heap _ _ _ _ _ _ HZ2.out) Tryz.underlying41 rfl arr32_info) rfl ⟨rfl, below_setRow HB2.out (Nat.le_refl _)⟩
set_option maxRecDepth 100000 in
set_option maxHeartbeats 4000000 in
theorem rtag_any (tag : Int) (v : Value) (ls : List (List UInt8)) (w : World) (h0 : 0 ≤ tag) (h1 : tag < 256) (hv : RdL w v ls) (hl : textLen ls ≤ 549755813888) :
    Calls Tryz.prog 92 #[.int .u8 tag, v] w fun e w' => e = .returned (hashV (sumB (textB tag ls))) ∧ Below w.heap.size w w' := by
  have HV := Lib.hid hv
  clear hv
  go_enter Tryz.func92, Tryz.ntmps92
  go_upto_region 1 with fail
  refine wp_world (fun W => (∃ z, W.heap[w.heap.size]? = some (.cells z 41 (0, 0)) ∧ z.size = 32) ∧ RdL W v ls ∧ Below w.heap.size w W) ⟨⟨_, heap_alloc_new _ _, rfl⟩, HV.out.below (bl_alloc (Below.refl _ _) _), bl_alloc (Below.refl _ _) _⟩ ?_
  rintro W ⟨⟨z, hz, hz2⟩, hV, hB⟩
  have HV := Lib.hid hV
  have HB := Lib.hid hB
  have HZ := Lib.hid hz
  clear hV hB hz
  go_wp2_with fail
  refine (rtext_any tag v ls W h0 h1 HV.out hl).mono ?_
  rintro e w1 ⟨u, rfl, hu, hb1⟩
  have HU := Lib.hid hu.rd
  have HB1 := Lib.hid (bl_bl HB.out hb1)
  have hz1 : w1.heap[w.heap.size]? = some (.cells z 41 (0, 0)) := by rw [hb1.block _ (Array.getElem?_eq_some_iff.1 HZ.out).1]; exact HZ.out
  have HZ1 := Lib.hid hz1
  clear hu hb1 hz1
  go_wp2_with fail
  refine (rsum_any u (textB tag ls) w1 HU.out (by rw [textB_len]; exact hl)).mono ?_
  rintro e w2 ⟨rfl, hb2⟩
  have hz2' : w2.heap[w.heap.size]? = some (.cells z 41 (0, 0)) := by rw [hb2.block _ (Array.getElem?_eq_some_iff.1 HZ1.out).1]; exact HZ1.out
  have HZ2 := Lib.hid hz2'
  have HB2 := Lib.hid (bl_bl HB1.out hb2)
  clear hb2 hz2'
  go_wp2_with (refine wpList_store_row rfl 41 (.tmp 4) (.tmp 8) rfl w.heap.size (bvs (sumB (textB tag ls))).toArray rfl rfl 41 _ HZ2.out arr32_info (by rw [hz2, List.size_toArray, bvs_length, sumB_length]) (bvs_all _) ?_)
  refine bodyPost_ret (v := hashV (sumB (textB tag ls))) (results_cell_row rfl _ _ w.heap.size 41 _ (0, 0) _ rfl (setRow_heap _ _ _ _ _ _ HZ2.out) Tryz.underlying41 rfl arr32_info) rfl ⟨rfl, below_setRow HB2.out (Nat.le_refl _)⟩
end Go.Proofs.YtdjcclcejmeheaaGreat
end
section
namespace Go.Proofs.YtdjcclcejmeheaaGreat
set_option linter.unusedVariables false
set_option linter.unusedSimpArgs false
open Go.RowKit
/-- A hash's number modulo the order. -/
def numF (h : List UInt8) : Int := leNum (h.take 8) % 2305843009213693950
theorem numF_bd (h : List UInt8) : 0 ≤ numF h ∧ numF h < 2305843009213693950 := by unfold numF; omega
theorem rd_hash (w : World) (h : List UInt8) (hh : h.length = 32) : Rd (w.alloc (.cells (bvs h).toArray 41)) (.slice (some ⟨w.heap.size, 0, none⟩) 8 32) (h.take 8) := by
  have h8 : (h.take 8).length = 8 := by rw [List.length_take]; omega
  refine .inr ⟨_, 0, 32, by rw [h8], by omega, by decide, fun i hi => ?_⟩
  rw [Nat.zero_add, cell_of_row _ _ _ _ _ _ (heap_alloc_new _ _)]
  rw [List.getElem?_toArray, bvs_get h i (by omega), List.getElem_take]
set_option maxHeartbeats 1600000 in
theorem number_any (h : List UInt8) (w : World) (hh : h.length = 32) :
    Calls Tryz.prog 142 #[hashV h] w fun e w' => e = .returned (.int .u64 (numF h)) ∧ Below w.heap.size w w' := by
  show Calls _ _ #[.agg (bvs h).toArray] w _
  have HRD := Lib.hid (rd_hash w h hh)
  have h8 : (h.take 8).length = 8 := by rw [List.length_take]; omega
  have H8 := Lib.hid h8
  have hn := leNum_u64 (h.take 8) (Nat.le_of_eq h8)
  obtain ⟨n, hN⟩ : ∃ n, n = leNum (h.take 8) := ⟨_, rfl⟩
  unfold numF
  rw [← hN] at hn ⊢
  have HN := Lib.hid hN
  obtain ⟨hn0, hn1⟩ := hn
  clear h8 hN hh
  go_enter Tryz.func142, Tryz.ntmps142
  go_wp2_with fail
  refine (new_any _ (h.take 8) _ HRD.out (by rw [H8.out]; decide)).mono ?_
  rintro e w1 ⟨g, rfl, hg, hr, hb⟩
  have HR := Lib.hid hr
  have HB := Lib.hid (bl_bl (bl_alloc (Below.refl w.heap.size w) _) hb)
  have HG := Lib.hid hg
  clear hr hb hg
  go_wp2_with fail
  refine (rnumr_any g (h.take 8) 0 w1 HR.out (by rw [H8.out]; decide)).mono ?_
  rintro e w2 ⟨rfl, hr2, hg2⟩
  have e1 : leNum (rawOut (h.take 8) 0 8) = n := by
    unfold rawOut
    rw [if_pos rfl, if_pos (by rw [H8.out]; exact Nat.le_refl _), List.take_take, HN.out]
    rfl
  rw [e1]
  have HB2 := Lib.hid (below_grown HB.out hg2 (fun k hk => by
    have h1 := HG.out
    simp only [Option.some.injEq] at hk
    subst hk
    simp at h1; omega))
  clear hr2 hg2 e1
  go_wp2_with fail
  go_ret
  exact ⟨rfl, HB2.out⟩
set_option maxHeartbeats 1600000 in
theorem rnumber_any (h : List UInt8) (w : World) (hh : h.length = 32) :
    Calls Tryz.prog 133 #[hashV h] w fun e w' => e = .returned (.int .u64 (numF h)) ∧ Below w.heap.size w w' := by
  show Calls _ _ #[.agg (bvs h).toArray] w _
  have HRD := Lib.hid (rd_hash w h hh)
  have h8 : (h.take 8).length = 8 := by rw [List.length_take]; omega
  have H8 := Lib.hid h8
  have hn := leNum_u64 (h.take 8) (Nat.le_of_eq h8)
  obtain ⟨n, hN⟩ : ∃ n, n = leNum (h.take 8) := ⟨_, rfl⟩
  unfold numF
  rw [← hN] at hn ⊢
  have HN := Lib.hid hN
  obtain ⟨hn0, hn1⟩ := hn
  clear h8 hN hh
  go_enter Tryz.func133, Tryz.ntmps133
  go_wp2_with fail
  refine (rword_any _ (h.take 8) _ HRD.out H8.out).mono ?_
  rintro e w1 ⟨rfl, rfl⟩
  rw [← HN.out]
  go_wp2_with fail
  go_ret
  exact ⟨rfl, bl_alloc (Below.refl _ _) _⟩
end Go.Proofs.YtdjcclcejmeheaaGreat
end
section
namespace Go.Proofs.YtdjcclcejmeheaaGreat
set_option linter.unusedVariables false
set_option linter.unusedSimpArgs false
open Go.RowKit
/-- A tagged hash's number. -/
def tagN (tag : Int) (ls : List (List UInt8)) : Int := numF (sumB (textB tag ls))
theorem tagN_bd (tag : Int) (ls : List (List UInt8)) : 0 ≤ tagN tag ls ∧ tagN tag ls < 2305843009213693950 := numF_bd _
def chalF (r y : Int) (m : List UInt8) : Int := tagN 101 [numB r, numB y, m]
def pubF (x : Int) : Int := fpow 7 (x % 2305843009213693950) 2305843009213693951
def signK (x : Int) (m : List UInt8) : Int := tagN 107 [numB x, m]
theorem rdl_three (w : World) {u v x : Value} {k l m : List UInt8} (T : TypeId) (hu : Rd w u k) (hv : Rd w v l) (hx : Rd w x m) :
    RdL (w.alloc (.cells #[u, v, x] T)) (.slice (some ⟨w.heap.size, 0, none⟩) 3 3) [k, l, m] := by
  refine .inr ⟨_, 0, 3, rfl, by simp, by decide, fun i hi => ?_⟩
  have hb := bl_alloc (Below.refl w.heap.size w) (.cells #[u, v, x] T)
  rw [Nat.zero_add, cell_of_row _ _ _ _ _ _ (heap_alloc_new _ _)]
  match i, hi with
  | 0, _ => exact ⟨_, rfl, hu.below hb⟩
  | 1, _ => exact ⟨_, rfl, hv.below hb⟩
  | 2, _ => exact ⟨_, rfl, hx.below hb⟩
theorem rdl_two (w : World) {u v : Value} {k l : List UInt8} (T : TypeId) (hu : Rd w u k) (hv : Rd w v l) :
    RdL (w.alloc (.cells #[u, v] T)) (.slice (some ⟨w.heap.size, 0, none⟩) 2 2) [k, l] := by
  refine .inr ⟨_, 0, 2, rfl, by simp, by decide, fun i hi => ?_⟩
  have hb := bl_alloc (Below.refl w.heap.size w) (.cells #[u, v] T)
  rw [Nat.zero_add, cell_of_row _ _ _ _ _ _ (heap_alloc_new _ _)]
  match i, hi with
  | 0, _ => exact ⟨_, rfl, hu.below hb⟩
  | 1, _ => exact ⟨_, rfl, hv.below hb⟩
theorem textLen3 (x y : Int) (m : List UInt8) : textLen [numB x, numB y, m] = 41 + m.length := by
  simp [textLen, totalLen, numB_length]; omega
theorem textLen2 (x : Int) (m : List UInt8) : textLen [numB x, m] = 25 + m.length := by
  simp [textLen, totalLen, numB_length]; omega
theorem num_own (n : Int) (w : World) (h0 : 0 ≤ n) (h1 : n < 18446744073709551616) : Calls Tryz.prog 80 #[.int .u64 n] w (GivesOwn w (numB n)) := by
  refine (num_any n w h0 h1).mono ?_
  rintro e w' ⟨rfl, rfl⟩
  exact ⟨_, rfl, own_lit w _ (numB n) (Nat.le_refl _) (by rw [numB_length]; decide), bl_alloc (Below.refl _ _) _⟩
set_option maxHeartbeats 1600000 in
theorem chal_any (r y : Int) (v : Value) (m : List UInt8) (w : World) (r0 : 0 ≤ r) (r1 : r < 18446744073709551616) (y0 : 0 ≤ y) (y1 : y < 18446744073709551616) (hv : Rd w v m) (hl : m.length ≤ 549755813800) :
    Calls Tryz.prog 116 #[.int .u64 r, .int .u64 y, v] w fun e w' => e = .returned (.int .u64 (chalF r y m)) ∧ Below w.heap.size w w' := by
  obtain ⟨a, c, rfl⟩ := hv.shape
  have HV := Lib.hid hv
  clear hv
  go_enter Tryz.func116, Tryz.ntmps116
  go_wp2_with fail
  refine (num_own r _ r0 r1).mono ?_
  rintro e w1 ⟨u1, rfl, hu1, hb1⟩
  obtain ⟨a1, c1, rfl⟩ := hu1.rd.shape
  have HU1 := Lib.hid hu1.rd
  have HB1 := Lib.hid hb1
  clear hu1 hb1
  go_wp2_with fail
  refine (num_own y _ y0 y1).mono ?_
  rintro e w2 ⟨u2, rfl, hu2, hb2⟩
  obtain ⟨a2, c2, rfl⟩ := hu2.rd.shape
  have HU2 := Lib.hid hu2.rd
  have HU1' := Lib.hid (HU1.out.below hb2)
  have HV2 := Lib.hid (HV.out.below (bl_bl HB1.out hb2))
  have HB2 := Lib.hid (bl_bl HB1.out hb2)
  clear hu2 hb2
  go_wp2_with fail
  refine (tag_any 101 _ [numB r, numB y, m] _ (by omega) (by omega) (rdl_three _ _ HU1'.out HU2.out HV2.out) (by rw [textLen3]; omega)).mono ?_
  rintro e w3 ⟨rfl, hb3⟩
  have HB3 := Lib.hid (bl_bl (bl_alloc HB2.out _) hb3)
  clear hb3
  go_wp2_with fail
  refine (number_any (sumB (textB 101 [numB r, numB y, m])) _ (sumB_length _)).mono ?_
  rintro e w4 ⟨rfl, hb4⟩
  have HB4 := Lib.hid (bl_bl HB3.out hb4)
  clear hb4
  go_wp2_with fail
  go_ret
  exact ⟨rfl, HB4.out⟩
set_option maxHeartbeats 1600000 in
theorem point_any (r y : Int) (v : Value) (m : List UInt8) (w : World) (r0 : 0 ≤ r) (r1 : r < 18446744073709551616) (y0 : 0 ≤ y) (y1 : y < 18446744073709551616) (hv : Rd w v m) (hl : m.length ≤ 549755813800) :
    Calls Tryz.prog 129 #[.int .u64 r, .int .u64 y, v] w fun e w' => e = .returned (.int .u64 (chalF r y m)) ∧ Below w.heap.size w w' := by
  obtain ⟨a, c, rfl⟩ := hv.shape
  have HV := Lib.hid hv
  clear hv
  go_enter Tryz.func129, Tryz.ntmps129
  go_wp2_with fail
  refine (rnum_any r _ r0 r1).mono ?_
  rintro e w1 ⟨u1, rfl, hu1, hb1⟩
  obtain ⟨a1, c1, rfl⟩ := hu1.rd.shape
  have HU1 := Lib.hid hu1.rd
  have HB1 := Lib.hid hb1
  clear hu1 hb1
  go_wp2_with fail
  refine (rnum_any y _ y0 y1).mono ?_
  rintro e w2 ⟨u2, rfl, hu2, hb2⟩
  obtain ⟨a2, c2, rfl⟩ := hu2.rd.shape
  have HU2 := Lib.hid hu2.rd
  have HU1' := Lib.hid (HU1.out.below hb2)
  have HV2 := Lib.hid (HV.out.below (bl_bl HB1.out hb2))
  have HB2 := Lib.hid (bl_bl HB1.out hb2)
  clear hu2 hb2
  go_wp2_with fail
  refine (rtag_any 101 _ [numB r, numB y, m] _ (by omega) (by omega) (rdl_three _ _ HU1'.out HU2.out HV2.out) (by rw [textLen3]; omega)).mono ?_
  rintro e w3 ⟨rfl, hb3⟩
  have HB3 := Lib.hid (bl_bl (bl_alloc HB2.out _) hb3)
  clear hb3
  go_wp2_with fail
  refine (rnumber_any (sumB (textB 101 [numB r, numB y, m])) _ (sumB_length _)).mono ?_
  rintro e w4 ⟨rfl, hb4⟩
  have HB4 := Lib.hid (bl_bl HB3.out hb4)
  clear hb4
  go_wp2_with fail
  go_ret
  exact ⟨rfl, HB4.out⟩
set_option maxHeartbeats 800000 in
theorem rpublic_any (x : Int) (w : World) (x0 : 0 ≤ x) (x1 : x < 18446744073709551616) :
    Calls Tryz.prog 12 #[.int .u64 x] w fun e w' => e = .returned (.int .u64 (pubF x)) ∧ Dr w w' := by
  go_enter Tryz.func12, Tryz.ntmps12
  go_wp2_with fail
  refine (rpow_any 7 (x % 2305843009213693950) 2305843009213693951 _ (by omega) (by omega) (by omega)).mono ?_
  rintro e w1 ⟨rfl, hd⟩
  go_wp2_with fail
  go_ret
  exact ⟨rfl, hd⟩
end Go.Proofs.YtdjcclcejmeheaaGreat
end
section
namespace Go.Proofs.YtdjcclcejmeheaaGreat
set_option linter.unusedVariables false
set_option linter.unusedSimpArgs false
open Go.RowKit
def sigV (r s : Int) : Value := .agg #[.int .u64 r, .int .u64 s]
/-- The signature's parts, of a secret below the order. -/
def sigR (x : Int) (m : List UInt8) : Int := fpow 7 (signK x m) 2305843009213693951
def sigE (x : Int) (m : List UInt8) : Int := chalF (sigR x m) (pubF x) m
def sigS (x : Int) (m : List UInt8) : Int := fadd (signK x m) (fmul x (sigE x m) 2305843009213693950) 2305843009213693950
def signV (x : Int) (m : List UInt8) : Value := sigV (sigR (x % 2305843009213693950) m) (sigS (x % 2305843009213693950) m)
theorem pubF_bd (x : Int) : 0 ≤ pubF x ∧ pubF x < 2305843009213693951 := fpow_bd _ _ _
theorem sigR_bd (x : Int) (m : List UInt8) : 0 ≤ sigR x m ∧ sigR x m < 2305843009213693951 := fpow_bd _ _ _
theorem signK_bd (x : Int) (m : List UInt8) : 0 ≤ signK x m ∧ signK x m < 2305843009213693950 := tagN_bd _ _
theorem sigE_bd (x : Int) (m : List UInt8) : 0 ≤ sigE x m ∧ sigE x m < 2305843009213693950 := tagN_bd _ _
theorem fmulO_bd (a b : Int) : 0 ≤ fmul a b 2305843009213693950 ∧ fmul a b 2305843009213693950 < 2305843009213693950 := ⟨Int.emod_nonneg _ (by decide), Int.emod_lt_of_pos _ (by decide)⟩
theorem faddO_bd (a b : Int) : 0 ≤ fadd a b 2305843009213693950 ∧ fadd a b 2305843009213693950 < 2305843009213693950 := ⟨Int.emod_nonneg _ (by decide), Int.emod_lt_of_pos _ (by decide)⟩
theorem sigS_bd (x : Int) (m : List UInt8) : 0 ≤ sigS x m ∧ sigS x m < 2305843009213693950 := faddO_bd _ _
theorem sig_one (r s : Int) : (#[Value.int .u64 r, Value.int .u64 s] : Array Value).all (·.oneCell') = true := by simp [Value.oneCell']
theorem sig_info : (Tryz.prog.info? 43).map (·.size) = some 2 := by kernel_rfl
set_option maxRecDepth 100000 in
set_option maxHeartbeats 3200000 in
theorem rsign_any (x : Int) (v : Value) (m : List UInt8) (w : World) (x0 : 0 ≤ x) (x1 : x < 18446744073709551616) (hv : Rd w v m) (hl : m.length ≤ 549755813800) :
    Calls Tryz.prog 95 #[.int .u64 x, v] w fun e w' => e = .returned (signV x m) ∧ Below w.heap.size w w' := by
  obtain ⟨a, c, rfl⟩ := hv.shape
  have HV := Lib.hid hv
  clear hv
  unfold signV
  obtain ⟨y, hy⟩ : ∃ y, y = x % 2305843009213693950 := ⟨_, rfl⟩
  have y0 : 0 ≤ y := by omega
  have y1 : y < 2305843009213693950 := by omega
  rw [← hy]
  have HYY := Lib.hid hy
  clear hy
  go_enter Tryz.func95, Tryz.ntmps95
  go_upto_region 2 with fail
  rw [← HYY.out]
  refine wp_world (fun W => (∃ z, W.heap[w.heap.size]? = some (.cells z 43 (0, 0)) ∧ z.size = 2) ∧ Rd W (.slice a m.length c) m ∧ Below w.heap.size w W) ⟨⟨_, heap_alloc_new _ _, rfl⟩, HV.out.below (bl_alloc (Below.refl _ _) _), bl_alloc (Below.refl _ _) _⟩ ?_
  rintro W ⟨⟨z, hz, hz2⟩, hV, hB⟩
  have HV := Lib.hid hV
  have HB := Lib.hid hB
  have HZ := Lib.hid hz
  have hlt := (Array.getElem?_eq_some_iff.1 hz).1
  have HLT := Lib.hid hlt
  clear hV hB hz hlt x0 x1 HYY
  go_wp2_with fail
  refine (rnum_any y _ y0 (by omega)).mono ?_
  rintro e w1 ⟨u1, rfl, hu1, hb1⟩
  obtain ⟨a1, c1, rfl⟩ := hu1.rd.shape
  have HU1 := Lib.hid hu1.rd
  have HV1 := Lib.hid (HV.out.below hb1)
  have HB1 := Lib.hid hb1
  clear hu1 hb1
  go_wp2_with fail
  refine (rtag_any 107 _ [numB y, m] _ (by omega) (by omega) (rdl_two _ _ HU1.out HV1.out) (by rw [textLen2]; omega)).mono ?_
  rintro e w2 ⟨rfl, hb2⟩
  have HB2 := Lib.hid (bl_bl (bl_alloc HB1.out _) hb2)
  clear hb2
  go_wp2_with fail
  refine (rnumber_any (sumB (textB 107 [numB y, m])) _ (sumB_length _)).mono ?_
  rintro e w3 ⟨rfl, hb3⟩
  have HB3 := Lib.hid (bl_bl HB2.out hb3)
  clear hb3
  have hk : numF (sumB (textB 107 [numB y, m])) = signK y m := rfl
  rw [hk]
  clear hk
  obtain ⟨k0, k1⟩ := signK_bd y m
  go_wp2_with fail
  refine (rpow_any 7 (signK y m) 2305843009213693951 _ (by omega) k0 (by omega)).mono ?_
  rintro e w4 ⟨rfl, hd4⟩
  have HB4 := Lib.hid (bl_dr HB3.out hd4)
  clear hd4
  have hR : fpow 7 (signK y m) 2305843009213693951 = sigR y m := rfl
  rw [hR]
  clear hR
  obtain ⟨r0, r1⟩ := sigR_bd y m
  go_wp2_with fail
  refine (rpublic_any y _ y0 (by omega)).mono ?_
  rintro e w5 ⟨rfl, hd5⟩
  have HB5 := Lib.hid (bl_dr HB4.out hd5)
  clear hd5
  obtain ⟨p0, p1⟩ := pubF_bd y
  go_wp2_with fail
  refine (point_any (sigR y m) (pubF y) _ m _ r0 (by omega) p0 (by omega) (HV.out.below HB5.out) hl).mono ?_
  rintro e w6 ⟨rfl, hb6⟩
  have HB6 := Lib.hid (bl_bl HB5.out hb6)
  clear hb6
  have hE : chalF (sigR y m) (pubF y) m = sigE y m := rfl
  rw [hE]
  clear hE
  obtain ⟨e0, e1⟩ := sigE_bd y m
  go_wp2_with fail
  refine (rmul_any y (sigE y m) 2305843009213693950 _ y0 e0 (by omega)).mono ?_
  rintro e w7 ⟨rfl, hd7⟩
  have HB7 := Lib.hid (bl_dr HB6.out hd7)
  clear hd7
  go_wp2_with fail
  refine (radd_any (signK y m) (fmul y (sigE y m) 2305843009213693950) 2305843009213693950 _ k0 (fmulO_bd _ _).1).mono ?_
  rintro e w8 ⟨rfl, hd8⟩
  have HB8 := Lib.hid (bl_dr HB7.out hd8)
  clear hd8
  have hS : fadd (signK y m) (fmul y (sigE y m) 2305843009213693950) 2305843009213693950 = sigS y m := rfl
  rw [hS]
  clear hS
  clear k0 k1 r0 r1 p0 p1 e0 e1
  generalize hR : sigR y m = R
  generalize hS : sigS y m = S
  have HR := Lib.hid hR
  have HS := Lib.hid hS
  clear hR hS
  have hz8 : w8.heap[w.heap.size]? = some (.cells z 43 (0, 0)) := by rw [HB8.out.block _ HLT.out]; exact HZ.out
  have HZ8 := Lib.hid hz8
  clear hz8
  go_wp2_with (refine wpList_store_row rfl 43 (.tmp 4) (.tmp 30) rfl w.heap.size #[.int .u64 R, .int .u64 S] rfl rfl 43 _ HZ8.out sig_info hz2 (sig_one R S) ?_)
  have hBB : Below w.heap.size w w8 := HB.out.trans (HB8.out.mono HB.out.size)
  refine bodyPost_ret (v := sigV R S) (results_cell_row rfl _ _ w.heap.size 43 _ (0, 0) _ rfl (setRow_heap _ _ _ _ _ _ HZ8.out) Tryz.underlying43 rfl sig_info) rfl ⟨by rw [HR.out, HS.out], below_setRow hBB (Nat.le_refl _)⟩
end Go.Proofs.YtdjcclcejmeheaaGreat
end
section
namespace Go.Proofs.YtdjcclcejmeheaaGreat
set_option linter.unusedVariables false
set_option linter.unusedSimpArgs false
open Go.RowKit
/-- A number that may be a public one. -/
def unitF (x : Int) : Bool := decide (1 ≤ x) && decide (x < 2305843009213693951)
def sameF (y : Int) (m : List UInt8) (r s : Int) : Bool := fpow 7 s 2305843009213693951 == fmul r (fpow y (chalF r y m) 2305843009213693951) 2305843009213693951
def checkF (y : Int) (m : List UInt8) (r s : Int) : Bool := unitF y && (unitF r && (decide (s < 2305843009213693950) && sameF y m r s))
set_option maxHeartbeats 800000 in
theorem unit_any (x : Int) (w : World) : Calls Tryz.prog 115 #[.int .u64 x] w fun e w' => e = .returned (.bool (unitF x)) ∧ w = w' := by
  unfold unitF
  by_cases h : 1 ≤ x
  · go_enter Tryz.func115, Tryz.ntmps115
    go_wp2_with fail
    go_ret
    exact ⟨by simp [h], rfl⟩
  · go_enter Tryz.func115, Tryz.ntmps115
    go_wp2_with fail
    go_ret
    exact ⟨by simp; omega, rfl⟩
set_option maxRecDepth 100000 in
set_option maxHeartbeats 3200000 in
theorem check_any (y r s : Int) (v : Value) (m : List UInt8) (w : World) (y0 : 0 ≤ y) (y1 : y < 18446744073709551616) (r0 : 0 ≤ r) (r1 : r < 18446744073709551616) (s0 : 0 ≤ s) (s1 : s < 18446744073709551616) (hv : Rd w v m) (hl : m.length ≤ 549755813800) :
    Calls Tryz.prog 74 #[.int .u64 y, v, sigV r s] w fun e w' => e = .returned (.bool (checkF y m r s)) ∧ Below w.heap.size w w' := by
  obtain ⟨a, c, rfl⟩ := hv.shape
  show Calls _ _ #[.int .u64 y, .slice a m.length c, .agg #[.int .u64 r, .int .u64 s]] w _
  have HV := Lib.hid hv
  clear hv
  unfold checkF
  obtain ⟨uy, huy⟩ : ∃ b, b = unitF y := ⟨_, rfl⟩
  obtain ⟨ur, hur⟩ : ∃ b, b = unitF r := ⟨_, rfl⟩
  obtain ⟨d, hd⟩ : ∃ b, b = sameF y m r s := ⟨_, rfl⟩
  rw [← huy, ← hur, ← hd]
  have HUY := Lib.hid huy
  have HUR := Lib.hid hur
  have HD := Lib.hid hd
  clear huy hur hd
  cases uy with
  | false =>
    go_enter Tryz.func74, Tryz.ntmps74
    go_wp2_with fail
    refine (unit_any y _).mono ?_
    rintro e w1 ⟨rfl, rfl⟩
    rw [← HUY.out]
    go_wp2_with fail
    go_ret
    exact ⟨rfl, bl_alloc (Below.refl _ _) _⟩
  | true =>
    cases ur with
    | false =>
      go_enter Tryz.func74, Tryz.ntmps74
      go_wp2_with fail
      refine (unit_any y _).mono ?_
      rintro e w1 ⟨rfl, rfl⟩
      rw [← HUY.out]
      go_wp2_with fail
      refine (unit_any r _).mono ?_
      rintro e w1 ⟨rfl, rfl⟩
      rw [← HUR.out]
      go_wp2_with fail
      go_ret
      exact ⟨rfl, bl_alloc (Below.refl _ _) _⟩
    | true =>
      by_cases hs : s < 2305843009213693950
      · go_enter Tryz.func74, Tryz.ntmps74
        go_wp2_with fail
        refine (unit_any y _).mono ?_
        rintro e w1 ⟨rfl, rfl⟩
        rw [← HUY.out]
        go_wp2_with fail
        refine (unit_any r _).mono ?_
        rintro e w1 ⟨rfl, rfl⟩
        rw [← HUR.out]
        go_wp2_with fail
        refine (chal_any r y _ m _ r0 r1 y0 y1 (HV.out.below (bl_alloc (Below.refl _ _) _)) hl).mono ?_
        rintro e w2 ⟨rfl, hb⟩
        have hrow := hb.block w.heap.size (by simp)
        rw [heap_alloc_new] at hrow
        have HB := Lib.hid (bl_bl (bl_alloc (Below.refl w.heap.size w) _) hb)
        have hc0 : w2.cell? ⟨w.heap.size, 0, none⟩ = some (.int .u64 r) := by rw [cell_of_row _ _ _ _ _ _ hrow]; rfl
        have hc1 : w2.cell? ⟨w.heap.size, 1, none⟩ = some (.int .u64 s) := by rw [cell_of_row _ _ _ _ _ _ hrow]; rfl
        clear hb hrow
        go_upto_region 4 with fail
        obtain ⟨c0, c1⟩ := tagN_bd 101 [numB r, numB y, m]
        have hE : tagN 101 [numB r, numB y, m] = chalF r y m := rfl
        rw [hE] at c0 c1
        clear hE
        obtain ⟨ch, hch⟩ : ∃ q, q = chalF r y m := ⟨_, rfl⟩
        rw [← hch] at c0 c1 ⊢
        have HCH := Lib.hid hch
        clear hch
        obtain ⟨p0, p1⟩ := fpow_bd y ch 2305843009213693951
        go_quiet (first | (go_at_call 117; exact Calls.quiet_of (pow_any _ _ _ _ (by omega) (by omega) (by omega))) | (go_at_call 118; exact Calls.quiet_of (mul_any _ _ _ _ (by omega) (by omega))))
        go_wp2_with fail
        go_ret
        refine ⟨?_, bl_drewN HB.out _⟩
        rw [HD.out]
        unfold sameF
        rw [← HCH.out]
        simp [hs]
      · go_enter Tryz.func74, Tryz.ntmps74
        go_wp2_with fail
        refine (unit_any y _).mono ?_
        rintro e w1 ⟨rfl, rfl⟩
        rw [← HUY.out]
        go_wp2_with fail
        refine (unit_any r _).mono ?_
        rintro e w1 ⟨rfl, rfl⟩
        rw [← HUR.out]
        go_wp2_with fail
        go_ret
        exact ⟨by rw [decide_eq_false (show ¬ (s < 2305843009213693950) by omega)]; rfl, bl_alloc (Below.refl _ _) _⟩
end Go.Proofs.YtdjcclcejmeheaaGreat
end
section
namespace Go.Proofs.YtdjcclcejmeheaaGreat
set_option linter.unusedVariables false
set_option linter.unusedSimpArgs false
open Go.RowKit
theorem unitF_true {x : Int} (h : 1 ≤ x) (h2 : x < 2305843009213693951) : unitF x = true := by simp [unitF, h, h2]
end Go.Proofs.YtdjcclcejmeheaaGreat
end
section
namespace Go.Proofs.YtdjcclcejmeheaaGreat
set_option linter.unusedVariables false
set_option linter.unusedSimpArgs false
open Go.RowKit
def putF (r s : Int) : List UInt8 := numB r ++ numB s
/-- The box of a signature stands. -/
def SigAt (g : Nat) (r s : Int) (w : World) : Prop := w.cell? ⟨g, 0, none⟩ = some (.int .u64 r) ∧ w.cell? ⟨g, 1, none⟩ = some (.int .u64 s)
theorem SigAt.below {g : Nat} {r s : Int} {w w' : World} (h : SigAt g r s w) (hg : g < w.heap.size) (hb : Below w.heap.size w w') : SigAt g r s w' :=
  ⟨by rw [hb.cell (p := ⟨g, 0, none⟩) hg]; exact h.1, by rw [hb.cell (p := ⟨g, 1, none⟩) hg]; exact h.2⟩
end Go.Proofs.YtdjcclcejmeheaaGreat
end
section
namespace Go.Proofs.YtdjcclcejmeheaaGreat
set_option linter.unusedVariables false
set_option linter.unusedSimpArgs false
open Go.RowKit
/-- append of bytes as one step of a region that draws its order. -/
theorem step_append_bytes {w : World} {ops : Array Oper} {o : Oper} {a : Act} {K : Act → World → Prop} {Q : Exit → Act → World → Prop} {E : Prop} (hgd : o.guard = none) (s x : Operand)
    (ho : o.op = .call { callee := .builtin .append, args := #[s, x], argTypes := #[22, 22] })
    (B : Nat) {v u : Value} {l m : List UInt8} (hs : a.eval s = v) (hx : a.eval x = u) (hv : Own w B v l) (hu : Rd w u m) (hl : l.length + m.length ≤ 1099511627776) (hB : B ≤ w.heap.size)
    (h : ∀ v' w', Own w' B v' (l ++ m) → w.grownBy w' v.ownBlock → K (a.put o.dst v') w') : if Region.wanted o (yielded ops a.tmps) = true then Oper.wp Tryz.prog o a w K Q else E := by
  have hw : Region.wanted o (yielded ops a.tmps) = true := by simp [Region.wanted, hgd]
  rw [if_pos hw]
  obtain ⟨v', w', hr, h1, h2⟩ := append_own w B o.type hv hu hl hB
  unfold Oper.wp execOp
  simp only [ho, resolve, invoke, builtin, Sem.run_bind, Sem.run_pure, Result.andThen_ok, List.map_toArray, List.map_cons, List.map_nil, hs, hx, hr]
  exact h v' w' h1 h2
theorem SigAt.grown {g : Nat} {r s : Int} {w w' : World} {row : Option Nat} (h : SigAt g r s w) (hg : g < w.heap.size) (hb : w.grownBy w' row) (hr : row ≠ some g) : SigAt g r s w' := by
  have e := hb.block g hg (fun e => hr e.symm)
  obtain ⟨h1, h2⟩ := h
  exact ⟨by simp only [World.cell?, e] at h1 ⊢; exact h1, by simp only [World.cell?, e] at h2 ⊢; exact h2⟩
set_option maxRecDepth 100000 in
set_option maxHeartbeats 3200000 in
theorem rput_any (r s : Int) (w : World) (r0 : 0 ≤ r) (r1 : r < 18446744073709551616) (s0 : 0 ≤ s) (s1 : s < 18446744073709551616) :
    Calls Tryz.prog 49 #[sigV r s] w (GivesOwn w (putF r s)) := by
  show Calls _ _ #[.agg #[.int .u64 r, .int .u64 s]] w _
  go_enter Tryz.func49, Tryz.ntmps49
  go_upto_region 1 with fail
  refine wp_world (fun W => SigAt w.heap.size r s W ∧ Below w.heap.size w W ∧ w.heap.size < W.heap.size) ⟨⟨by rw [cell_of_row _ _ _ _ _ _ (heap_alloc_new _ _)]; rfl, by rw [cell_of_row _ _ _ _ _ _ (heap_alloc_new _ _)]; rfl⟩, bl_alloc (Below.refl _ _) _, by simp⟩ ?_
  rintro W ⟨hS, hB, hlt⟩
  have HS := Lib.hid hS
  have HB := Lib.hid hB
  have HLT := Lib.hid hlt
  obtain ⟨hc0, hc1⟩ := hS
  clear hB hlt
  go_region_held3 (fun w' => w'.cell? ⟨w.heap.size, 0, none⟩ = some (.int .u64 r) ∧ w'.cell? ⟨w.heap.size, 1, none⟩ = some (.int .u64 s)) (first
    | exact ⟨hc0, hc1⟩
    | exact HS3.out
    | exact HS2.out
    | exact HS1.out) (first
    | (have _h := HU1; clear _h; go_at_call 93; refine (rnum_any _ _ s0 s1).mono ?_; rintro e w2 ⟨u2, rfl, hu2, hb2⟩; obtain ⟨a2, c2, rfl⟩ := hu2.rd.shape; have HU2 := Lib.hid hu2.rd; have HU12 := Lib.hid (HU1.out.below hb2); have HB2 := Lib.hid (bl_bl HB1.out hb2); have HS2 := Lib.hid (HS1.out.below HLT1.out hb2); have HLT2 := Lib.hid (Nat.lt_of_lt_of_le HLT1.out hb2.size); clear hu2 hb2)
    | (refine step_append_bytes rfl (.tmp 5) (.tmp 8) rfl (w.heap.size + 1) rfl rfl HU12.out HU2.out (by simp only [numB_length]; omega) HLT2.out ?_; intro u3 w3 ho3 hg3; have HU3 := Lib.hid ho3; have HB3 := Lib.hid (below_grown HB2.out hg3 (fun k hk => by have := HU12.out.row k hk; omega)); have HS3 := Lib.hid (HS2.out.grown HLT2.out hg3 (fun e => by have := HU12.out.row _ e; omega)); clear ho3 hg3)
    | (go_at_call 93; refine (rnum_any _ _ r0 r1).mono ?_; rintro e w1 ⟨u1, rfl, hu1, hb1⟩; obtain ⟨a1, c1, rfl⟩ := hu1.rd.shape; have HU1 := Lib.hid (hu1.mono HLT.out); have HB1 := Lib.hid (HB.out.trans ((bl_bl (Dr.below (Dr.drew (Dr.refl W)) _) hb1).mono HB.out.size)); have HS1 := Lib.hid (SigAt.below HS.out HLT.out (bl_bl (Dr.below (Dr.drew (Dr.refl W)) _) hb1)); have HLT1 := Lib.hid (Nat.lt_of_lt_of_le HLT.out hb1.size); clear hu1 hb1))
  go_wp2_with fail
  go_ret
  exact ⟨_, rfl, HU3.out.mono (by omega), HB3.out⟩
end Go.Proofs.YtdjcclcejmeheaaGreat
end
section
namespace Go.Proofs.YtdjcclcejmeheaaGreat
set_option linter.unusedVariables false
set_option linter.unusedSimpArgs false
open Go.RowKit
theorem pow_mul_mod (a : Int) (n q : Nat) (h : a ^ n % 2305843009213693951 = 1) : a ^ (n * q) % 2305843009213693951 = 1 := by
  induction q with
  | zero => rw [Nat.mul_zero, Int.pow_zero]; rfl
  | succ q ih => rw [Nat.mul_succ, Int.pow_add, Int.mul_emod, ih, h]; rfl
theorem pow_emod (z : Int) (b : Nat) (M : Int) : z ^ b % M = (z % M) ^ b % M := by
  induction b with
  | zero => rw [Int.pow_zero, Int.pow_zero]
  | succ b ih => rw [Int.pow_succ, Int.pow_succ, Int.mul_emod, ih, Int.mul_emod ((z % M) ^ b) (z % M), Int.emod_emod_of_dvd _ (Int.dvd_refl M)]
theorem pow_red (a : Int) (N k : Nat) (h : a ^ N % 2305843009213693951 = 1) : a ^ (k % N) % 2305843009213693951 = a ^ k % 2305843009213693951 := by
  have e : a ^ k = a ^ (N * (k / N)) * a ^ (k % N) := by rw [← Int.pow_add, Nat.div_add_mod]
  rw [e, Int.mul_emod, pow_mul_mod a N _ h, Int.one_mul, Int.emod_emod_of_dvd _ (Int.dvd_refl _)]
/-- Exponents of 7 count modulo the order. -/
theorem fpow_order_mod (n : Int) (hn : 0 ≤ n) : fpow 7 (n % 2305843009213693950) 2305843009213693951 = fpow 7 n 2305843009213693951 := by
  obtain ⟨N, hN⟩ : ∃ N : Nat, N = 2305843009213693950 := ⟨_, rfl⟩
  have h7 : (7 : Int) ^ N % 2305843009213693951 = 1 := pow_order 7 (by decide) (by decide) hN
  obtain ⟨k, rfl⟩ := Int.eq_ofNat_of_zero_le hn
  have e2 : ((k : Int) % 2305843009213693950).toNat = k % N := by rw [hN]; omega
  unfold fpow pw
  rw [modN_P, e2, Int.toNat_natCast]
  exact pow_red 7 N k h7
theorem fpow_mulexp (x e : Int) (hx : 0 ≤ x) (he : 0 ≤ e) : fpow 7 (x * e) 2305843009213693951 = fpow (fpow 7 x 2305843009213693951) e 2305843009213693951 := by
  obtain ⟨a, rfl⟩ := Int.eq_ofNat_of_zero_le hx
  obtain ⟨b, rfl⟩ := Int.eq_ofNat_of_zero_le he
  unfold fpow pw
  rw [modN_P]
  have e1 : ((a : Int) * (b : Int)).toNat = a * b := by rw [← Int.natCast_mul]; rfl
  rw [e1, Int.toNat_natCast, Int.toNat_natCast, Int.pow_mul, pow_emod]
/-- What is signed is taken. -/
theorem sign_same (x : Int) (m : List UInt8) (x0 : 0 ≤ x) (x1 : x < 2305843009213693950) : sameF (pubF x) m (sigR x m) (sigS x m) = true := by
  have hk := signK_bd x m
  have he := sigE_bd x m
  have hxe : 0 ≤ x * sigE x m := Int.mul_nonneg x0 he.1
  unfold sameF
  rw [beq_iff_eq]
  show fpow 7 (sigS x m) _ = fmul (sigR x m) (fpow (pubF x) (sigE x m) _) _
  have hp : pubF x = fpow 7 x 2305843009213693951 := by unfold pubF; rw [Int.emod_eq_of_lt x0 x1]
  rw [hp, ← fpow_mulexp x _ x0 he.1]
  unfold sigR
  rw [← fpow_add 7 _ _ hk.1 hxe]
  have hs : sigS x m = (signK x m + x * sigE x m) % 2305843009213693950 := by
    unfold sigS
    rw [fadd_eq, fmul_eq, modN_O, Int.add_emod_emod]
  rw [hs, fpow_order_mod _ (by omega)]
end Go.Proofs.YtdjcclcejmeheaaGreat
end
section
namespace Go.Proofs.YtdjcclcejmeheaaGreat
set_option linter.unusedVariables false
set_option maxRecDepth 100000
set_option linter.unusedSimpArgs false
open Go.RowKit Go.ChangeShapes Go.WideShapes Go.ChangeAt
end Go.Proofs.YtdjcclcejmeheaaGreat
end
section
namespace Go.Proofs.YtdjcclcejmeheaaGreat
set_option linter.unusedVariables false
set_option linter.unusedSimpArgs false
open Go.RowKit
theorem putF_len (r s : Int) : (putF r s).length = 16 := by simp [putF, numB_length]
/-- The box of a signature stands, and is old. -/
structure SA (g : Nat) (r s : Int) (w : World) : Prop where
  at_ : SigAt g r s w
  lt : g < w.heap.size
theorem SA.below {g : Nat} {r s : Int} {w w' : World} (h : SA g r s w) (hb : Below w.heap.size w w') : SA g r s w' := ⟨h.at_.below h.lt hb, Nat.lt_of_lt_of_le h.lt hb.size⟩
theorem SA.dr {g : Nat} {r s : Int} {w w' : World} (h : SA g r s w) (hb : Dr w w') : SA g r s w' := h.below (hb.below _)
theorem SA.alloc {g : Nat} {r s : Int} {w : World} (h : SA g r s w) (o : Obj) : SA g r s (w.alloc o) := h.below (bl_alloc (Below.refl _ _) o)
theorem SA.drew {g : Nat} {r s : Int} {w : World} (h : SA g r s w) : SA g r s w.drew := h.dr (Dr.drew (Dr.refl _))
theorem SA.drewN {g : Nat} {r s : Int} {w : World} (h : SA g r s w) (n : Nat) : SA g r s (w.drewN n) := h.dr (Dr.drewN (Dr.refl _) n)
theorem SA.cells {g : Nat} {r s : Int} {w : World} (h : SA g r s w) : w.cell? ⟨g, 0, none⟩ = some (.int .u64 r) ∧ w.cell? ⟨g, 1, none⟩ = some (.int .u64 s) := h.at_
theorem SA.new (r s : Int) (w : World) (fr : Nat × Nat) (T : Nat) : SA w.heap.size r s (w.alloc (.cells #[.int .u64 r, .int .u64 s] T fr)) :=
  ⟨⟨by rw [cell_of_row _ _ _ _ _ _ (heap_alloc_new _ _)]; rfl, by rw [cell_of_row _ _ _ _ _ _ (heap_alloc_new _ _)]; rfl⟩, by simp⟩
end Go.Proofs.YtdjcclcejmeheaaGreat
end
section
namespace Go.Proofs.YtdjcclcejmeheaaGreat
set_option linter.unusedVariables false
set_option linter.unusedSimpArgs false
open Go.RowKit
end Go.Proofs.YtdjcclcejmeheaaGreat
end
section
namespace Go.Proofs.YtdjcclcejmeheaaGreat
set_option linter.unusedVariables false
set_option linter.unusedSimpArgs false
open Go.RowKit
end Go.Proofs.YtdjcclcejmeheaaGreat
end
section
namespace Go.Proofs.YtdjcclcejmeheaaGreat
set_option linter.unusedVariables false
set_option linter.unusedSimpArgs false
open Go.RowKit
theorem pub_mod (a : Int) : pubF (a % 2305843009213693950) = pubF a := by unfold pubF; rw [Int.emod_emod_of_dvd _ (Int.dvd_refl _)]
theorem pub_pos (x : Int) : 1 ≤ pubF x := by
  have hb := pubF_bd x
  rcases (show pubF x < 1 ∨ 1 ≤ pubF x by omega) with h | h
  · exfalso
    have h0 : pubF x = 0 := by omega
    unfold pubF at h0
    have e0 : 0 ≤ x % 2305843009213693950 := Int.emod_nonneg _ (by decide)
    have e1 : x % 2305843009213693950 < 2305843009213693950 := Int.emod_lt_of_pos _ (by decide)
    have h1 := fpow_add 7 (x % 2305843009213693950) (2305843009213693950 - x % 2305843009213693950) e0 (by omega)
    rw [h0, show x % 2305843009213693950 + (2305843009213693950 - x % 2305843009213693950) = 2305843009213693950 by omega] at h1
    have h2 := fpow_order 7 (by decide)
    rw [h1] at h2
    rw [show fmul 0 (fpow 7 (2305843009213693950 - x % 2305843009213693950) 2305843009213693951) 2305843009213693951 = 0 from fmul_zero _ _ rfl] at h2
    revert h2
    decide
  · exact h
theorem sigR_pos (x : Int) (m : List UInt8) : 1 ≤ sigR x m := by
  have h := pub_pos (signK x m)
  unfold pubF at h
  have hb := signK_bd x m
  rw [show signK x m % 2305843009213693950 = signK x m from Int.emod_eq_of_lt hb.1 hb.2] at h
  exact h
/-- A genuine signature is taken. -/
theorem check_own (x : Int) (m : List UInt8) (x0 : 0 ≤ x) (x1 : x < 2305843009213693950) : checkF (pubF x) m (sigR x m) (sigS x m) = true := by
  unfold checkF
  rw [sign_same x m x0 x1, unitF_true (pub_pos x) (pubF_bd x).2, unitF_true (sigR_pos x m) (sigR_bd x m).2, decide_eq_true (sigS_bd x m).2]
  rfl
end Go.Proofs.YtdjcclcejmeheaaGreat
end
section
namespace Go.Proofs.YtdjcclcejmeheaaGreat
set_option linter.unusedVariables false
set_option linter.unusedSimpArgs false
set_option maxRecDepth 100000
open Go.RowKit Go.ChangeShapes Go.WideShapes Go.ChangeAt
end Go.Proofs.YtdjcclcejmeheaaGreat
end
section
namespace Go.Proofs.YtdjcclcejmeheaaGreat
set_option linter.unusedVariables false
set_option linter.unusedSimpArgs false
open Go.RowKit
def u64 (x : Int) : Int := x % 18446744073709551616
theorem byt_nat (x : Int) (h0 : 0 ≤ x) (h1 : x < 256) : ((byt x).toNat : Int) = x := by
  unfold byt
  rw [UInt8.toNat_ofNat_of_lt' (by show x.toNat < 256; omega)]
  omega
theorem leNum_numB (n : Int) (h0 : 0 ≤ n) (h1 : n < 18446744073709551616) : leNum (numB n) = n := by
  simp only [numB, leNum]
  rw [byt_nat _ (by omega) (by omega), byt_nat _ (by omega) (by omega), byt_nat _ (by omega) (by omega), byt_nat _ (by omega) (by omega), byt_nat _ (by omega) (by omega), byt_nat _ (by omega) (by omega), byt_nat _ (by omega) (by omega), byt_nat _ (by omega) (by omega)]
  omega
theorem Own.alloc {w : World} {B : Nat} {v : Value} {l : List UInt8} (h : Own w B v l) (o : Obj) : Own (w.alloc o) B v l := h.below (bl_alloc (Below.refl _ _) o)
theorem rd_far {w : World} {v : Value} {l : List UInt8} {g k : Nat} (h : Rd w v l) (ho : OldThan v g) (hk : g ≤ k) (cs : Array Value) : Rd (w.setRow k cs) v l := by
  rcases h with h | ⟨b, o, c, rfl, hc, hm, hcell⟩
  · exact .inl h
  · refine .inr ⟨b, o, c, rfl, hc, hm, fun i hi => ?_⟩
    have hb := ho ⟨b, o, none⟩ _ _ rfl
    have e : (w.setRow k cs).heap[b]? = w.heap[b]? := setRow_other _ _ _ _ (by simp at hb; omega)
    rw [← hcell i hi]
    exact World.cell?_of_block e
theorem RdrAt.setRow {w : World} {g k : Nat} {l : List UInt8} {e : Int} (h : RdrAt w g l e) (hk : g < k) (cs : Array Value) : RdrAt (w.setRow k cs) g l e := by
  obtain ⟨u, hg, hu, ho⟩ := h
  exact ⟨u, by rw [setRow_other _ _ _ _ (by omega)]; exact hg, rd_far hu ho (Nat.le_of_lt hk) _, ho⟩
theorem rd_cells {w : World} {b o c : Nat} {l : List UInt8} {n : Nat} (h : Rd w (.slice (some ⟨b, o, none⟩) n c) l) : ∀ j v, (bvs l)[j]? = some v → w.cell? ((⟨b, o, none⟩ : Addr).add j) = some v := by
  rcases h with ⟨hv, _⟩ | ⟨b', o', c', hv, _, _, hcell⟩
  · cases hv
  · simp only [Value.slice.injEq, Option.some.injEq, Addr.mk.injEq, and_true] at hv
    obtain ⟨⟨rfl, rfl⟩, _, rfl⟩ := hv
    intro j v hj
    have hjl : j < l.length := by have := (List.getElem?_eq_some_iff.1 hj).1; rwa [bvs_length] at this
    rw [addr_add, hcell j hjl, ← hj, bvs_get l j hjl]
theorem splice {α : Type} (A B B' C : List α) (n m : Nat) (hn : n = A.length) (hm : m = B.length) : (A ++ (B ++ C)).take n ++ B' ++ (A ++ (B ++ C)).drop (n + m) = A ++ (B' ++ C) := by
  subst hn hm
  rw [List.take_left, ← List.append_assoc A B C, ← List.length_append, List.drop_left, List.append_assoc]
end Go.Proofs.YtdjcclcejmeheaaGreat
end

