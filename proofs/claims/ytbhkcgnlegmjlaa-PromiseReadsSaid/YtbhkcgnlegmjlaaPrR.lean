/-
  Promises: the box; entry, Right, the program's.
-/
import Derived.Test.YtbhkcgnlegmjlaaPrL
import Derived.Test.YtbhkcgnlegmjlaaUpG
import Derived.Test.YtbhkcgnlegmjlaaStp
namespace Go.Proofs.Ytbhkcgnlegmjlaa
set_option linter.unusedVariables false
set_option linter.unusedSimpArgs false
open Go.RowKit

/-- The box of a promise stands. -/
structure PA (g : Nat) (p : Pr) (w : World) : Prop where
  row : w.heap[g]? = some (.cells p.cells.toArray 31 (0, 0))
theorem PA.lt {g : Nat} {p : Pr} {w : World} (k : PA g p w) : g < w.heap.size := (Array.getElem?_eq_some_iff.1 k.row).1
theorem PA.below {g : Nat} {p : Pr} {w w' : World} (k : PA g p w) (hb : Below w.heap.size w w') : PA g p w' := ⟨by rw [hb.block g k.lt]; exact k.row⟩
theorem PA.grown {g : Nat} {p : Pr} {w w' : World} {row : Option Nat} (k : PA g p w) (h : w.grownBy w' row) (hr : row ≠ some g) : PA g p w' := ⟨by rw [h.block g k.lt (fun e => hr e.symm)]; exact k.row⟩
theorem PA.alloc {g : Nat} {p : Pr} {w : World} (k : PA g p w) (o : Obj) : PA g p (w.alloc o) := k.below (bl_alloc (Below.refl _ _) o)
theorem PA.drewN {g : Nat} {p : Pr} {w : World} (k : PA g p w) (n : Nat) : PA g p (w.drewN n) := k.below (Dr.below (Dr.drewN (Dr.refl _) n) _)
theorem PA.drew {g : Nat} {p : Pr} {w : World} (k : PA g p w) : PA g p w.drew := k.drewN 1
theorem PA.new (p : Pr) (w : World) : PA w.heap.size p (w.alloc (.cells p.cells.toArray 31)) := ⟨heap_alloc_new _ _⟩
theorem PA.c3 {g : Nat} {p : Pr} {w : World} (k : PA g p w) : w.cell? ⟨g, 3, none⟩ = some (.int .i64 p.tk) := by rw [cell_of_row _ _ _ _ _ _ k.row]; rfl
theorem PA.c4 {g : Nat} {p : Pr} {w : World} (k : PA g p w) : w.cell? ⟨g, 4, none⟩ = some (.int .i64 p.dl) := by rw [cell_of_row _ _ _ _ _ _ k.row]; rfl
theorem PA.c5 {g : Nat} {p : Pr} {w : World} (k : PA g p w) : w.cell? ⟨g, 5, none⟩ = some (.int .u64 p.r) := by rw [cell_of_row _ _ _ _ _ _ k.row]; rfl
theorem PA.c6 {g : Nat} {p : Pr} {w : World} (k : PA g p w) : w.cell? ⟨g, 6, none⟩ = some (.int .u64 p.s) := by rw [cell_of_row _ _ _ _ _ _ k.row]; rfl
theorem Pr.cells_one (p : Pr) : ∀ v ∈ p.cells, v.oneCell' = true := by
  intro v hv
  simp only [Pr.cells, List.mem_cons, List.not_mem_nil, or_false] at hv
  rcases hv with rfl | rfl | rfl | rfl | rfl | rfl | rfl <;> rfl
theorem pr_size (p : Pr) : (Try.prog.info? 31).map (·.size) = some p.cells.toArray.size := by
  rw [show p.cells.toArray.size = 7 from rfl]; kernel_rfl
theorem PA.range {g : Nat} {p : Pr} {w : World} (k : PA g p w) : w.rangeAt g 0 p.cells := fun j v hv => by
  rw [cell_of_row _ _ _ _ _ _ k.row, Nat.zero_add, List.getElem?_toArray]
  exact hv
theorem PA.entry {g : Nat} {p : Pr} {w : World} (k : PA g p w) : w.rangeAt g 0 (entCells p.nm p.ver p.key) := fun j v hv => by
  refine k.range j v ?_
  have hj : j < 3 := (List.getElem?_eq_some_iff.1 hv).1
  match j, hj with
  | 0, _ => exact hv
  | 1, _ => exact hv
  | 2, _ => exact hv
theorem yields_pr {ops : Array Oper} {S : World → Prop} {op : Oper} {a : Act} (hw : Region.wanted op (yielded ops a.tmps) = true) (x : Operand) (ho : op.op = .load 31 x) (g : Nat) (p : Pr)
    (hx : a.eval x = .pointer (some ⟨g, 0, none⟩)) (hS : ∀ w, S w → PA g p w) : YieldsIf Try.prog ops S op (prV p) a :=
  yieldsIf_load_mid hw 31 x ho g 0 hx p.cells _ (fun w hw' => (hS w hw').range) Try.underlying31 rfl (by rw [pr_size p, List.size_toArray])
theorem wpList_load_pr_g {ops : Array Oper} {rest : List Oper} {o : Oper} {a : Act} {w : World} {Q : Exit → Act → World → Prop} (hw : Region.wanted o (yielded ops a.tmps) = true) (x : Operand) (ho : o.op = .load 31 x)
    (g : Nat) (p : Pr) (hx : a.eval x = .pointer (some ⟨g, 0, none⟩)) (k : PA g p w) (hh : wpList Try.prog ops Q rest (a.put o.dst (prV p)) w) : wpList Try.prog ops Q (o :: rest) a w :=
  wpList_wanted hw fun K hK => wp_load_row 31 x ho g hx 31 _ (0, 0) _ k.row Try.underlying31 rfl (pr_size p) (hK _ _ hh)
theorem built_upk (n : List UInt8) (v k : Int) : Try.prog.built 85 [(0, .string ⟨n.toArray⟩), (1, .int .i64 v), (2, .int .u64 k)] = some (Up.mk n v k 0 0 0).cells.toArray := by kernel_rfl
theorem rightU_zero (n : List UInt8) (v k : Int) : rightU (Up.mk n v k 0 0 0) = rightE n v k := by
  show (rightE n v k && _) = _
  rw [show (decide ((0 : Int) = 0) || decide ((0 : Int) = 1)) = true from rfl, Bool.and_true]
theorem pr_zero : (#[.string ⟨#[]⟩, .int .i64 0, .int .u64 0, .int .i64 0, .int .i64 0, .int .u64 0, .int .u64 0] : Array Value) = zeroP.cells.toArray := rfl
theorem built_pr0 : Try.prog.built 31 [] = some zeroP.cells.toArray := by kernel_rfl
theorem pr_loads {w : World} {g : Nat} {p : Pr} (h : PA g p w) : (loadVar 31 ⟨g, 0, none⟩).run Try.prog w = .ok (prV p) w :=
  run_loadVar_row w g 31 31 _ (0, 0) _ h.row Try.underlying31 rfl (pr_size p)

set_option maxRecDepth 100000 in
set_option maxHeartbeats 32000000 in
theorem pentry_any (n : List UInt8) (v k : Int) (w : World) :
    Calls Try.prog 31 #[entV n v k] w fun e w' => e = .returned (.bool (rightE n v k)) ∧ Below w.heap.size w w' := by
  show Calls _ _ #[.agg (entCells n v k).toArray] w _
  have HR := Lib.hid (rightU_zero n v k)
  go_enter Try.func31, Try.ntmps31
  go_upto_region 1 with fail
  refine wp_world (fun W => EA w.heap.size n v k W ∧ Below w.heap.size w W) ⟨EA.new _ _ _ _, bl_alloc (Below.refl _ _) _⟩ ?_
  rintro W ⟨hA, hB⟩
  have HB := Lib.hid hB
  have c0 := hA.c0
  have c1 := hA.c1
  have c2 := hA.c2
  clear hA hB
  go_wp2_with (refine wpList_built rfl 85 #[(0, .tmp 4), (1, .tmp 6), (2, .tmp 8)] rfl [(0, .string ⟨n.toArray⟩), (1, .int .i64 v), (2, .int .u64 k)] (by simp only [List.map_toArray, List.map_cons, List.map_nil]; rfl) (Up.mk n v k 0 0 0).cells.toArray (built_upk _ _ _) ?_)
  refine (rightU_any (Up.mk n v k 0 0 0) _).mono ?_
  rintro e w1 ⟨rfl, hb⟩
  rw [HR.out]
  have HB1 := Lib.hid (bl_bl HB.out hb)
  clear hb
  go_wp2_with fail
  go_ret
  exact ⟨rfl, HB1.out⟩

set_option maxRecDepth 100000 in
set_option maxHeartbeats 32000000 in
theorem rightP_any (p : Pr) (w : World) :
    Calls Try.prog 15 #[prV p] w fun e w' => e = .returned (.bool (rightP p)) ∧ Below w.heap.size w w' := by
  show Calls _ _ #[.agg p.cells.toArray] w _
  cases hr : rightE p.nm p.ver p.key with
  | false =>
    have HR := Lib.hid hr
    rw [show rightP p = false by unfold rightP; rw [hr]; rfl]
    clear hr
    go_enter Try.func15, Try.ntmps15
    go_upto_region 1 with fail
    refine wp_world (fun W => PA w.heap.size p W ∧ Below w.heap.size w W) ⟨PA.new _ _, bl_alloc (Below.refl _ _) _⟩ ?_
    rintro W ⟨hA, hB⟩
    have HB := Lib.hid hB
    have HH := Lib.hid hA
    clear hA hB
    go_wp2_with (refine wpList_load_mid rfl 27 (.tmp 3) rfl w.heap.size 0 rfl (entCells p.nm p.ver p.key) _ HH.out.entry Try.underlying27 rfl (by rw [ent_size p.nm p.ver p.key, List.size_toArray]) ?_)
    refine (pentry_any p.nm p.ver p.key _).mono ?_
    rintro e w1 ⟨rfl, hb⟩
    rw [HR.out]
    have HB1 := Lib.hid (bl_bl HB.out hb)
    have c3 := (HH.out.below hb).c3
    have c4 := (HH.out.below hb).c4
    clear hb
    go_wp2_with fail
    go_ret
    exact ⟨rfl, HB1.out⟩
  | true =>
    have HR := Lib.hid hr
    by_cases h0 : 0 ≤ p.tk
    case neg =>
      rw [show rightP p = false by unfold rightP; rw [hr, decide_eq_false h0]; rfl]
      clear hr
      go_enter Try.func15, Try.ntmps15
      go_upto_region 1 with fail
      refine wp_world (fun W => PA w.heap.size p W ∧ Below w.heap.size w W) ⟨PA.new _ _, bl_alloc (Below.refl _ _) _⟩ ?_
      rintro W ⟨hA, hB⟩
      have HB := Lib.hid hB
      have HH := Lib.hid hA
      clear hA hB
      go_wp2_with (refine wpList_load_mid rfl 27 (.tmp 3) rfl w.heap.size 0 rfl (entCells p.nm p.ver p.key) _ HH.out.entry Try.underlying27 rfl (by rw [ent_size p.nm p.ver p.key, List.size_toArray]) ?_)
      refine (pentry_any p.nm p.ver p.key _).mono ?_
      rintro e w1 ⟨rfl, hb⟩
      rw [HR.out]
      have HB1 := Lib.hid (bl_bl HB.out hb)
      have c3 := (HH.out.below hb).c3
      have c4 := (HH.out.below hb).c4
      clear hb
      go_wp2_with fail
      go_ret
      exact ⟨rfl, HB1.out⟩
    by_cases h1 : p.tk ≤ 1152921504606846936
    case neg =>
      rw [show rightP p = false by unfold rightP; rw [hr, decide_eq_true h0, decide_eq_false h1]; rfl]
      clear hr
      go_enter Try.func15, Try.ntmps15
      go_upto_region 1 with fail
      refine wp_world (fun W => PA w.heap.size p W ∧ Below w.heap.size w W) ⟨PA.new _ _, bl_alloc (Below.refl _ _) _⟩ ?_
      rintro W ⟨hA, hB⟩
      have HB := Lib.hid hB
      have HH := Lib.hid hA
      clear hA hB
      go_wp2_with (refine wpList_load_mid rfl 27 (.tmp 3) rfl w.heap.size 0 rfl (entCells p.nm p.ver p.key) _ HH.out.entry Try.underlying27 rfl (by rw [ent_size p.nm p.ver p.key, List.size_toArray]) ?_)
      refine (pentry_any p.nm p.ver p.key _).mono ?_
      rintro e w1 ⟨rfl, hb⟩
      rw [HR.out]
      have HB1 := Lib.hid (bl_bl HB.out hb)
      have c3 := (HH.out.below hb).c3
      have c4 := (HH.out.below hb).c4
      clear hb
      go_wp2_with fail
      go_ret
      exact ⟨rfl, HB1.out⟩
    have hw : IntKind.i64.wrap (p.tk + 40) = p.tk + 40 := by rw [IntKind.wrap_i64]; omega
    by_cases h2 : p.dl = p.tk + 40
    · rw [show rightP p = true by unfold rightP; rw [hr, decide_eq_true h0, decide_eq_true h1, decide_eq_true h2]; rfl]
      have h2' : (p.dl == p.tk + 40) = true := by rw [h2]; exact beq_self_eq_true _
      clear hr h2
      go_enter Try.func15, Try.ntmps15
      go_upto_region 1 with fail
      refine wp_world (fun W => PA w.heap.size p W ∧ Below w.heap.size w W) ⟨PA.new _ _, bl_alloc (Below.refl _ _) _⟩ ?_
      rintro W ⟨hA, hB⟩
      have HB := Lib.hid hB
      have HH := Lib.hid hA
      clear hA hB
      go_wp2_with (refine wpList_load_mid rfl 27 (.tmp 3) rfl w.heap.size 0 rfl (entCells p.nm p.ver p.key) _ HH.out.entry Try.underlying27 rfl (by rw [ent_size p.nm p.ver p.key, List.size_toArray]) ?_)
      refine (pentry_any p.nm p.ver p.key _).mono ?_
      rintro e w1 ⟨rfl, hb⟩
      rw [HR.out]
      have HB1 := Lib.hid (bl_bl HB.out hb)
      have c3 := (HH.out.below hb).c3
      have c4 := (HH.out.below hb).c4
      clear hb
      go_wp2_with fail
      go_ret
      exact ⟨rfl, HB1.out⟩
    · rw [show rightP p = false by unfold rightP; rw [hr, decide_eq_true h0, decide_eq_true h1, decide_eq_false h2]; rfl]
      have h2' : (p.dl == p.tk + 40) = false := beq_false_of_ne h2
      clear hr h2
      go_enter Try.func15, Try.ntmps15
      go_upto_region 1 with fail
      refine wp_world (fun W => PA w.heap.size p W ∧ Below w.heap.size w W) ⟨PA.new _ _, bl_alloc (Below.refl _ _) _⟩ ?_
      rintro W ⟨hA, hB⟩
      have HB := Lib.hid hB
      have HH := Lib.hid hA
      clear hA hB
      go_wp2_with (refine wpList_load_mid rfl 27 (.tmp 3) rfl w.heap.size 0 rfl (entCells p.nm p.ver p.key) _ HH.out.entry Try.underlying27 rfl (by rw [ent_size p.nm p.ver p.key, List.size_toArray]) ?_)
      refine (pentry_any p.nm p.ver p.key _).mono ?_
      rintro e w1 ⟨rfl, hb⟩
      rw [HR.out]
      have HB1 := Lib.hid (bl_bl HB.out hb)
      have c3 := (HH.out.below hb).c3
      have c4 := (HH.out.below hb).c4
      clear hb
      go_wp2_with fail
      go_ret
      exact ⟨rfl, HB1.out⟩
end Go.Proofs.Ytbhkcgnlegmjlaa
