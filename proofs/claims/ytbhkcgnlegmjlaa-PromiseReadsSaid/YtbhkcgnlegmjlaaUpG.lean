/-
  Requests: Of and Read, the reference's.
-/
import Derived.Test.YtbhkcgnlegmjlaaUpF
namespace Go.Proofs.Ytbhkcgnlegmjlaa
set_option linter.unusedVariables false
set_option linter.unusedSimpArgs false
open Go.RowKit

/-- What stands while the reference's Read reads: the result's box, the reader. -/
structure RrI (w cur : World) (g : Nat) (z : RS) : Prop where
  res : UA w.heap.size zeroU cur
  bel : Below w.heap.size w cur
  rdr : RRx cur g z.l z.x
  lt : w.heap.size < g
theorem RrI.glt {w cur : World} {g : Nat} {z : RS} (h : RrI w cur g z) : g < cur.heap.size := h.rdr.lt
theorem RrI.read {w cur w' : World} {g : Nat} {z z' : RS} (h : RrI w cur g z) (hr : RRx w' g z'.l z'.x) (hg : cur.grownBy w' (some g)) : RrI w w' g z' :=
  ⟨h.res.grown hg (fun e => by have := h.lt; simp at e; omega), below_grown h.bel hg (fun k hk => by have := h.lt; simp at hk; omega), hr, h.lt⟩
theorem RrI.below {w cur w' : World} {g : Nat} {z : RS} (h : RrI w cur g z) (hb : Below cur.heap.size cur w') : RrI w w' g z := ⟨h.res.below hb, bl_bl h.bel hb, h.rdr.below hb, h.lt⟩
theorem RrI.alloc {w cur : World} {g : Nat} {z : RS} (h : RrI w cur g z) (o : Obj) : RrI w (cur.alloc o) g z := h.below (bl_alloc (Below.refl _ _) o)
theorem RrI.drewN {w cur : World} {g : Nat} {z : RS} (h : RrI w cur g z) (n : Nat) : RrI w (cur.drewN n) g z := h.below (Dr.below (Dr.drewN (Dr.refl _) n) _)
theorem RrI.drew {w cur : World} {g : Nat} {z : RS} (h : RrI w cur g z) : RrI w cur.drew g z := h.drewN 1
theorem RrI.setRow {w cur : World} {g k : Nat} {z : RS} (h : RrI w cur g z) (hk : g < k) (cs : Array Value) : RrI w (cur.setRow k cs) g z := by
  have h1 := h.lt
  exact ⟨⟨by rw [setRow_other _ _ _ _ (by omega)]; exact h.res.row⟩, below_setRow h.bel (by omega), h.rdr.setRow hk cs, h.lt⟩
theorem RrI.setCell {w cur : World} {g k o : Nat} {z : RS} (h : RrI w cur g z) (hk : g < k) (u : Value) : RrI w (cur.setCell ⟨k, o, none⟩ u) g z := by
  have h1 := h.lt
  exact ⟨⟨by rw [heap_far _ _ _ _ _ (by omega)]; exact h.res.row⟩, below_set h.bel _ _ _ (by omega), h.rdr.setCell hk u, h.lt⟩
theorem RrI.c1 {w cur : World} {g : Nat} {z : RS} (h : RrI w cur g z) (u : Up) : (cur.setRow w.heap.size u.cells.toArray).cell? ⟨g, 1, none⟩ = some (.int .i64 z.x) := by
  have h1 := h.lt
  have h2 := h.rdr.c1
  rw [World.cell?_of_block (setRow_other _ _ _ _ (show g ≠ w.heap.size by omega))]
  exact h2
theorem UA.set4 {g : Nat} {u : Up} {w : World} (k : UA g u w) (r : Int) : UA g { u with r := r } (w.setCell ⟨g, 4, none⟩ (.int .u64 r)) := by
  refine ⟨?_⟩
  rw [heap_setCell_same _ _ _ _ _ _ k.row]
  rfl
theorem UA.set5 {g : Nat} {u : Up} {w : World} (k : UA g u w) (s : Int) : UA g { u with s := s } (w.setCell ⟨g, 5, none⟩ (.int .u64 s)) := by
  refine ⟨?_⟩
  rw [heap_setCell_same _ _ _ _ _ _ k.row]
  rfl
theorem grown_trans' {a b c : World} {r : Option Nat} (h : a.grownBy b r) (k : b.grownBy c r) : a.grownBy c r := grown_trans h k
def preUr (b : List UInt8) : Up := ⟨lmpOut 32 b 0, intF (ust b 0).num, (ust b 1).num, intF (ust b 2).num, 0, 0⟩
theorem preUr_sig (b : List UInt8) : ({ ({ preUr b with r := (ust b 3).num } : Up) with s := (ust b 4).num } : Up) = parseU intF b := rfl
attribute [local irreducible] ust lmpOut parseU RS.num rightU nearV intF

set_option maxRecDepth 100000 in
set_option maxHeartbeats 3200000 in
theorem rof_any (g : Nat) (b : List UInt8) (w : World) (hr : RRx w g b 0) (hl : b.length ≤ 1099511627776) :
    Calls Try.prog 28 #[.pointer (some ⟨g, 0, none⟩)] w fun e w' => e = .returned (entV (lmpOut 32 b 0) (intF (ust b 0).num) (ust b 1).num) ∧ RRx w' g (ust b 2).l (ust b 2).x ∧ w.grownBy w' (some g) := by
  have HR := Lib.hid hr
  have HLT := Lib.hid hr.lt
  clear hr
  go_enter Try.func28, Try.ntmps28
  go_upto_region 1 with fail
  rw [ent_zero]
  refine wp_world (fun W => EA w.heap.size [] 0 0 W ∧ RRx W g b 0 ∧ w.grownBy W (some g)) ⟨EA.new _ _ _ _, HR.out.below (bl_alloc (Below.refl _ _) _), gb_alloc (World.grownBy.refl _ _) _⟩ ?_
  rintro W ⟨hE, hR, hG⟩
  have HE := Lib.hid hE
  have HR0 := Lib.hid hR
  have HG := Lib.hid hG
  clear hE hR hG
  go_wp2_with fail
  refine (rlump_u g b _ HR0.out hl).mono ?_
  rintro e w1 ⟨v, rfl, hv, hr, hg⟩
  obtain ⟨a1, d1, rfl⟩ := hv.shape
  have HV := Lib.hid hv
  have HR1 := Lib.hid hr
  have HE1 := Lib.hid (HE.out.grown hg (fun e => by have := HLT.out; simp at e; omega))
  have HG1 := Lib.hid (grown_trans' HG.out hg)
  clear hv hr hg
  go_wp2_with (rw [conv_rd HV.out])
  refine (rint_u g b 0 _ HR1.out hl).mono ?_
  rintro e w2 ⟨rfl, hr, hg⟩
  have HR2 := Lib.hid hr
  have HE2 := Lib.hid (HE1.out.grown hg (fun e => by have := HLT.out; simp at e; omega))
  have HG2 := Lib.hid (grown_trans' HG1.out hg)
  clear hr hg
  go_wp2_with fail
  refine (rnum_u g b 1 _ HR2.out hl).mono ?_
  rintro e w3 ⟨rfl, hr, hg⟩
  have HR3 := Lib.hid hr
  have HE3 := Lib.hid (HE2.out.grown hg (fun e => by have := HLT.out; simp at e; omega))
  have HG3 := Lib.hid (grown_trans' HG2.out hg)
  clear hr hg
  go_wp2_with (first
    | refine wpList_built rfl 27 #[(0, .tmp 10), (1, .tmp 11), (2, .tmp 13)] rfl [(0, .string ⟨(lmpOut 32 b 0).toArray⟩), (1, .int .i64 (intF (ust b 0).num)), (2, .int .u64 (ust b 1).num)] (by simp only [List.map_toArray, List.map_cons, List.map_nil]; rfl) (entCells (lmpOut 32 b 0) (intF (ust b 0).num) (ust b 1).num).toArray (built_ent _ _ _) ?_
    | refine wpList_store_row rfl 27 (.tmp 2) (.tmp 14) rfl w.heap.size (entCells (lmpOut 32 b 0) (intF (ust b 0).num) (ust b 1).num).toArray rfl rfl 27 _ HE3.out.row (ent_size _ _ _) rfl (all_oneCell_toArray (entCells_one _ _ _)) ?_)
  exact bodyPost_ret (v := entV (lmpOut 32 b 0) (intF (ust b 0).num) (ust b 1).num) (results_cell_row rfl _ _ w.heap.size 27 _ (0, 0) _ rfl (setRow_heap _ _ _ _ _ _ HE3.out.row) Try.underlying27 rfl (ent_size _ _ _)) rfl ⟨rfl, HR3.out.setRow HLT.out _, grown_other HG3.out (Nat.le_refl _) _⟩

end Go.Proofs.Ytbhkcgnlegmjlaa
