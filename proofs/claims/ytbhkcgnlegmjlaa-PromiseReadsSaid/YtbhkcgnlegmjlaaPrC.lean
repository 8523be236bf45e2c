/-
  Promises: what stands while one is read; near.
-/
import Derived.Test.YtbhkcgnlegmjlaaPrK
import Derived.Test.YtbhkcgnlegmjlaaUpG
namespace Go.Proofs.Ytbhkcgnlegmjlaa
set_option linter.unusedVariables false
set_option linter.unusedSimpArgs false
open Go.RowKit

/-- What stands while a promise is read: the result's box, the reader. -/
structure RpI (w cur : World) (g : Nat) (z : RS) : Prop where
  res : PA w.heap.size zeroP cur
  bel : Below w.heap.size w cur
  rdr : RdrAt cur g z.l z.x
  lt : w.heap.size < g
theorem RpI.glt {w cur : World} {g : Nat} {z : RS} (h : RpI w cur g z) : g < cur.heap.size := by obtain ⟨u, hg, _⟩ := h.rdr; exact (Array.getElem?_eq_some_iff.1 hg).1
theorem RpI.read {w cur w' : World} {g : Nat} {z z' : RS} (h : RpI w cur g z) (hr : RdrAt w' g z'.l z'.x) (hg : cur.grownBy w' (some g)) : RpI w w' g z' :=
  ⟨h.res.grown hg (fun e => by have := h.lt; simp at e; omega), below_grown h.bel hg (fun k hk => by have := h.lt; simp at hk; omega), hr, h.lt⟩
theorem RpI.below {w cur w' : World} {g : Nat} {z : RS} (h : RpI w cur g z) (hb : Below cur.heap.size cur w') : RpI w w' g z := ⟨h.res.below hb, bl_bl h.bel hb, h.rdr.below hb, h.lt⟩
theorem RpI.alloc {w cur : World} {g : Nat} {z : RS} (h : RpI w cur g z) (o : Obj) : RpI w (cur.alloc o) g z := h.below (bl_alloc (Below.refl _ _) o)
theorem RpI.drewN {w cur : World} {g : Nat} {z : RS} (h : RpI w cur g z) (n : Nat) : RpI w (cur.drewN n) g z := h.below (Dr.below (Dr.drewN (Dr.refl _) n) _)
theorem RpI.drew {w cur : World} {g : Nat} {z : RS} (h : RpI w cur g z) : RpI w cur.drew g z := h.drewN 1
theorem RpI.setRow {w cur : World} {g k : Nat} {z : RS} (h : RpI w cur g z) (hk : g < k) (cs : Array Value) : RpI w (cur.setRow k cs) g z := by
  have h1 := h.lt
  exact ⟨⟨by rw [setRow_other _ _ _ _ (by omega)]; exact h.res.row⟩, below_setRow h.bel (by omega), h.rdr.setRow hk cs, h.lt⟩
theorem RpI.setCell {w cur : World} {g k o : Nat} {z : RS} (h : RpI w cur g z) (hk : g < k) (u : Value) : RpI w (cur.setCell ⟨k, o, none⟩ u) g z := by
  have h1 := h.lt
  exact ⟨⟨by rw [heap_far _ _ _ _ _ (by omega)]; exact h.res.row⟩, below_set h.bel _ _ _ (by omega), h.rdr.setFar hk u, h.lt⟩
theorem nearP_any (n : Int) (w : World) (h0 : 0 ≤ n) (h1 : n < 18446744073709551616) :
    Calls Try.prog 24 #[.int .u64 n] w fun e w' => e = .returned (.int .i64 (nearF n)) ∧ w = w' := by
  unfold nearF
  by_cases h : 1152921504606846976 < n
  · rw [if_pos h]
    go_enter Try.func24, Try.ntmps24
    go_wp2_with fail
    go_ret
    exact ⟨rfl, rfl⟩
  · rw [if_neg h]
    have hw : IntKind.i64.wrap n = n := by rw [IntKind.wrap_i64]; omega
    go_enter Try.func24, Try.ntmps24
    go_wp2_with fail
    go_ret
    exact ⟨rfl, rfl⟩
theorem run_alloc_ent (w : World) : (Instr.alloc 27 true (.tuple #[])).run Try.prog w = .ok (.pointer (some ⟨w.heap.size, 0, none⟩)) (w.alloc (.cells (entCells [] 0 0).toArray 27)) := by kernel_rfl
theorem run_alloc_pr (w : World) : (Instr.alloc 31 true (.tuple #[])).run Try.prog w = .ok (.pointer (some ⟨w.heap.size, 0, none⟩)) (w.alloc (.cells zeroP.cells.toArray 31)) := by kernel_rfl
theorem step_store_ent {w : World} {ops : Array Oper} {o : Oper} {a : Act} {K : Act → World → Prop} {Q : Exit → Act → World → Prop} {E : Prop} (hgd : o.guard = none) (x y : Operand) (ho : o.op = .store 27 x y)
    (g : Nat) (n : List UInt8) (v k : Int) (hx : a.eval x = .pointer (some ⟨g, 0, none⟩)) (hy : a.eval y = .agg (entCells n v k).toArray) (n' : List UInt8) (v' k' : Int) (hg : EA g n' v' k' w)
    (h : ∀ w', w' = w.setRow g (entCells n v k).toArray → K (a.put o.dst undef) w') : if Region.wanted o (yielded ops a.tmps) = true then Oper.wp Try.prog o a w K Q else E := by
  have hw : Region.wanted o (yielded ops a.tmps) = true := by simp [Region.wanted, hgd]
  rw [if_pos hw]
  exact wp_store_row 27 x y ho g (entCells n v k).toArray hx hy 27 _ hg.row (ent_size n v k) rfl (all_oneCell_toArray (entCells_one n v k)) (h _ rfl)
theorem step_store_pr {w : World} {ops : Array Oper} {o : Oper} {a : Act} {K : Act → World → Prop} {Q : Exit → Act → World → Prop} {E : Prop} (hgd : o.guard = none) (x y : Operand) (ho : o.op = .store 31 x y)
    (g : Nat) (p : Pr) (hx : a.eval x = .pointer (some ⟨g, 0, none⟩)) (hy : a.eval y = .agg p.cells.toArray) (p0 : Pr) (hg : PA g p0 w)
    (h : ∀ w', w' = w.setRow g p.cells.toArray → K (a.put o.dst undef) w') : if Region.wanted o (yielded ops a.tmps) = true then Oper.wp Try.prog o a w K Q else E := by
  have hw : Region.wanted o (yielded ops a.tmps) = true := by simp [Region.wanted, hgd]
  rw [if_pos hw]
  exact wp_store_row 31 x y ho g p.cells.toArray hx hy 31 _ hg.row (pr_size p) rfl (all_oneCell_toArray p.cells_one) (h _ rfl)
theorem EA.range' {g : Nat} {n : List UInt8} {v k : Int} {w : World} (h : EA g n v k w) : w.rangeAt g 0 (entCells n v k) := fun j x hx => by
  rw [cell_of_row _ _ _ _ _ _ h.row, Nat.zero_add, List.getElem?_toArray]
  exact hx
theorem yields_ent' {ops : Array Oper} {S : World → Prop} {op : Oper} {a : Act} (hw : Region.wanted op (yielded ops a.tmps) = true) (x : Operand) (ho : op.op = .load 27 x) (g : Nat) (n : List UInt8) (v k : Int)
    (hx : a.eval x = .pointer (some ⟨g, 0, none⟩)) (hS : ∀ w, S w → EA g n v k w) : YieldsIf Try.prog ops S op (entV n v k) a :=
  yieldsIf_load_mid hw 27 x ho g 0 hx (entCells n v k) _ (fun w hw' => (hS w hw').range') Try.underlying27 rfl (by rw [ent_size n v k, List.size_toArray])
theorem yields_build_pr {ops : Array Oper} {S : World → Prop} {op : Oper} {a : Act} (hw : Region.wanted op (yielded ops a.tmps) = true) {parts : Array (Nat × Operand)} {vals : List (Nat × Value)} {cells : Array Value} (ho : op.op = .build 31 parts)
    (hv : (parts.map fun (i, x) => (i, a.eval x)).toList = vals) (hb : Try.prog.built 31 vals = some cells) : YieldsIf Try.prog ops S op (.agg cells) a := by
  refine .inl ⟨hw, fun w _ => ?_⟩
  unfold execOp
  simp only [ho, Sem.run_bind, run_build w _ _ cells (show Try.prog.built 31 (parts.map fun (i, x) => (i, a.eval x)).toList = some cells by rw [hv]; exact hb), Result.andThen_ok, Sem.run_pure]
def preP (b : List UInt8) : Pr := ⟨lmpOut 32 b 0, nearF (ust b 0).num, (ust b 1).num, nearF (ust b 2).num, nearF (ust b 3).num, 0, 0⟩
theorem preP_sig (b : List UInt8) : ({ preP b with r := (ust b 4).num, s := (ust b 5).num } : Pr) = parseP nearF b := rfl
/-- What Read tells. -/
def GivesReadP (w : World) (b : List UInt8) (e : Ending) (w' : World) : Prop := e = .returned (.tuple #[prV (readP b).1, .int .i64 (readP b).2]) ∧ Below w.heap.size w w'
end Go.Proofs.Ytbhkcgnlegmjlaa
