/-
  Requests: the boxes; Entry, may, Right, the program's and the reference's.
-/
import Derived.Test.YtkkgjmfnlabbdaaUpL
import Derived.Test.YtkkgjmfnlabbdaaStr
namespace Go.Proofs.Ytkkgjmfnlabbdaa
set_option linter.unusedVariables false
set_option linter.unusedSimpArgs false
open Go.RowKit

/-- The box of a request stands. -/
structure UA (g : Nat) (u : Up) (w : World) : Prop where
  row : w.heap[g]? = some (.cells u.cells.toArray 27 (0, 0))
theorem UA.lt {g : Nat} {u : Up} {w : World} (k : UA g u w) : g < w.heap.size := (Array.getElem?_eq_some_iff.1 k.row).1
theorem UA.below {g : Nat} {u : Up} {w w' : World} (k : UA g u w) (hb : Below w.heap.size w w') : UA g u w' := ⟨by rw [hb.block g k.lt]; exact k.row⟩
theorem UA.grown {g : Nat} {u : Up} {w w' : World} {row : Option Nat} (k : UA g u w) (h : w.grownBy w' row) (hr : row ≠ some g) : UA g u w' := ⟨by rw [h.block g k.lt (fun e => hr e.symm)]; exact k.row⟩
theorem UA.alloc {g : Nat} {u : Up} {w : World} (k : UA g u w) (o : Obj) : UA g u (w.alloc o) := k.below (bl_alloc (Below.refl _ _) o)
theorem UA.drewN {g : Nat} {u : Up} {w : World} (k : UA g u w) (n : Nat) : UA g u (w.drewN n) := k.below (Dr.below (Dr.drewN (Dr.refl _) n) _)
theorem UA.drew {g : Nat} {u : Up} {w : World} (k : UA g u w) : UA g u w.drew := k.drewN 1
theorem UA.new (u : Up) (w : World) : UA w.heap.size u (w.alloc (.cells u.cells.toArray 27)) := ⟨heap_alloc_new _ _⟩
theorem UA.c0 {g : Nat} {u : Up} {w : World} (k : UA g u w) : w.cell? ⟨g, 0, none⟩ = some (.string ⟨u.nm.toArray⟩) := by rw [cell_of_row _ _ _ _ _ _ k.row]; rfl
theorem UA.c1 {g : Nat} {u : Up} {w : World} (k : UA g u w) : w.cell? ⟨g, 1, none⟩ = some (.int .i64 u.ver) := by rw [cell_of_row _ _ _ _ _ _ k.row]; rfl
theorem UA.c2 {g : Nat} {u : Up} {w : World} (k : UA g u w) : w.cell? ⟨g, 2, none⟩ = some (.int .u64 u.key) := by rw [cell_of_row _ _ _ _ _ _ k.row]; rfl
theorem UA.c3 {g : Nat} {u : Up} {w : World} (k : UA g u w) : w.cell? ⟨g, 3, none⟩ = some (.int .i64 u.cls) := by rw [cell_of_row _ _ _ _ _ _ k.row]; rfl
theorem UA.c4 {g : Nat} {u : Up} {w : World} (k : UA g u w) : w.cell? ⟨g, 4, none⟩ = some (.int .u64 u.r) := by rw [cell_of_row _ _ _ _ _ _ k.row]; rfl
theorem UA.c5 {g : Nat} {u : Up} {w : World} (k : UA g u w) : w.cell? ⟨g, 5, none⟩ = some (.int .u64 u.s) := by rw [cell_of_row _ _ _ _ _ _ k.row]; rfl
theorem Up.cells_one (u : Up) : ∀ v ∈ u.cells, v.oneCell' = true := by
  intro v hv
  simp only [Up.cells, List.mem_cons, List.not_mem_nil, or_false] at hv
  rcases hv with rfl | rfl | rfl | rfl | rfl | rfl <;> rfl
theorem up_size (u : Up) : (Try.prog.info? 27).map (·.size) = some u.cells.toArray.size := by
  rw [show u.cells.toArray.size = 6 from rfl]; kernel_rfl
/-- The box of an entry stands. -/
structure EA (g : Nat) (n : List UInt8) (v k : Int) (w : World) : Prop where
  row : w.heap[g]? = some (.cells (entCells n v k).toArray 48 (0, 0))
theorem EA.lt {g : Nat} {n : List UInt8} {v k : Int} {w : World} (h : EA g n v k w) : g < w.heap.size := (Array.getElem?_eq_some_iff.1 h.row).1
theorem EA.below {g : Nat} {n : List UInt8} {v k : Int} {w w' : World} (h : EA g n v k w) (hb : Below w.heap.size w w') : EA g n v k w' := ⟨by rw [hb.block g h.lt]; exact h.row⟩
theorem EA.grown {g : Nat} {n : List UInt8} {v k : Int} {w w' : World} {row : Option Nat} (h : EA g n v k w) (hg : w.grownBy w' row) (hr : row ≠ some g) : EA g n v k w' := ⟨by rw [hg.block g h.lt (fun e => hr e.symm)]; exact h.row⟩
theorem EA.alloc {g : Nat} {n : List UInt8} {v k : Int} {w : World} (h : EA g n v k w) (o : Obj) : EA g n v k (w.alloc o) := h.below (bl_alloc (Below.refl _ _) o)
theorem EA.drewN {g : Nat} {n : List UInt8} {v k : Int} {w : World} (h : EA g n v k w) (m : Nat) : EA g n v k (w.drewN m) := h.below (Dr.below (Dr.drewN (Dr.refl _) m) _)
theorem EA.drew {g : Nat} {n : List UInt8} {v k : Int} {w : World} (h : EA g n v k w) : EA g n v k w.drew := h.drewN 1
theorem EA.new (n : List UInt8) (v k : Int) (w : World) : EA w.heap.size n v k (w.alloc (.cells (entCells n v k).toArray 48)) := ⟨heap_alloc_new _ _⟩
theorem EA.c0 {g : Nat} {n : List UInt8} {v k : Int} {w : World} (h : EA g n v k w) : w.cell? ⟨g, 0, none⟩ = some (.string ⟨n.toArray⟩) := by rw [cell_of_row _ _ _ _ _ _ h.row]; rfl
theorem EA.c1 {g : Nat} {n : List UInt8} {v k : Int} {w : World} (h : EA g n v k w) : w.cell? ⟨g, 1, none⟩ = some (.int .i64 v) := by rw [cell_of_row _ _ _ _ _ _ h.row]; rfl
theorem EA.c2 {g : Nat} {n : List UInt8} {v k : Int} {w : World} (h : EA g n v k w) : w.cell? ⟨g, 2, none⟩ = some (.int .u64 k) := by rw [cell_of_row _ _ _ _ _ _ h.row]; rfl
theorem entCells_one (n : List UInt8) (v k : Int) : ∀ x ∈ entCells n v k, x.oneCell' = true := by
  intro x hx
  simp only [entCells, List.mem_cons, List.not_mem_nil, or_false] at hx
  rcases hx with rfl | rfl | rfl <;> rfl
theorem ent_size (n : List UInt8) (v k : Int) : (Try.prog.info? 48).map (·.size) = some (entCells n v k).toArray.size := by
  rw [show (entCells n v k).toArray.size = 3 from rfl]; kernel_rfl
theorem built_ent (n : List UInt8) (v k : Int) : Try.prog.built 48 [(0, .string ⟨n.toArray⟩), (1, .int .i64 v), (2, .int .u64 k)] = some (entCells n v k).toArray := by kernel_rfl
theorem ent_zero : (#[.string ⟨#[]⟩, .int .i64 0, .int .u64 0] : Array Value) = (entCells [] 0 0).toArray := rfl

set_option maxRecDepth 100000 in
set_option maxHeartbeats 3200000 in
theorem may_any (n : List UInt8) (v k : Int) (w : World) :
    Calls Try.prog 35 #[entV n v k] w fun e w' => e = .returned (.bool (rightE n v k)) ∧ Below w.heap.size w w' := by
  show Calls _ _ #[.agg (entCells n v k).toArray] w _
  have hsz : (ByteArray.mk n.toArray).size = n.length := rfl
  by_cases k0 : 1 ≤ n.length
  case neg =>
    have hf : rightE n v k = false := by unfold rightE; rw [decide_eq_false k0]; simp
    rw [hf]
    have k0' : ¬ ((n.length : Int) ≥ 1) := by omega
    go_enter Try.func35, Try.ntmps35
    go_upto_region 1 with fail
    refine wp_world (fun W => EA w.heap.size n v k W ∧ Below w.heap.size w W) ⟨EA.new _ _ _ _, bl_alloc (Below.refl _ _) _⟩ ?_
    rintro W ⟨hA, hB⟩
    have HB := Lib.hid hB
    have c0 := hA.c0
    have c1 := hA.c1
    have c2 := hA.c2
    clear hA hB
    go_wp2_with fail
    go_ret
    exact ⟨rfl, HB.out⟩
  by_cases k1 : n.length ≤ 32
  case neg =>
    have hf : rightE n v k = false := by unfold rightE; rw [decide_eq_true k0, decide_eq_false k1]; simp
    rw [hf]
    have k0' : (n.length : Int) ≥ 1 := by omega
    have k1' : ¬ ((n.length : Int) ≤ 32) := by omega
    go_enter Try.func35, Try.ntmps35
    go_upto_region 1 with fail
    refine wp_world (fun W => EA w.heap.size n v k W ∧ Below w.heap.size w W) ⟨EA.new _ _ _ _, bl_alloc (Below.refl _ _) _⟩ ?_
    rintro W ⟨hA, hB⟩
    have HB := Lib.hid hB
    have c0 := hA.c0
    have c1 := hA.c1
    have c2 := hA.c2
    clear hA hB
    go_wp2_with fail
    go_ret
    exact ⟨rfl, HB.out⟩
  by_cases k2 : 1 ≤ v
  case neg =>
    have hf : rightE n v k = false := by unfold rightE; rw [decide_eq_true k0, decide_eq_true k1, decide_eq_false k2]; simp
    rw [hf]
    have k0' : (n.length : Int) ≥ 1 := by omega
    have k1' : (n.length : Int) ≤ 32 := by omega
    go_enter Try.func35, Try.ntmps35
    go_upto_region 1 with fail
    refine wp_world (fun W => EA w.heap.size n v k W ∧ Below w.heap.size w W) ⟨EA.new _ _ _ _, bl_alloc (Below.refl _ _) _⟩ ?_
    rintro W ⟨hA, hB⟩
    have HB := Lib.hid hB
    have c0 := hA.c0
    have c1 := hA.c1
    have c2 := hA.c2
    clear hA hB
    go_wp2_with fail
    go_ret
    exact ⟨rfl, HB.out⟩
  by_cases k3 : v ≤ 1073741824
  case neg =>
    have hf : rightE n v k = false := by unfold rightE; rw [decide_eq_true k0, decide_eq_true k1, decide_eq_true k2, decide_eq_false k3]; simp
    rw [hf]
    have k0' : (n.length : Int) ≥ 1 := by omega
    have k1' : (n.length : Int) ≤ 32 := by omega
    go_enter Try.func35, Try.ntmps35
    go_upto_region 1 with fail
    refine wp_world (fun W => EA w.heap.size n v k W ∧ Below w.heap.size w W) ⟨EA.new _ _ _ _, bl_alloc (Below.refl _ _) _⟩ ?_
    rintro W ⟨hA, hB⟩
    have HB := Lib.hid hB
    have c0 := hA.c0
    have c1 := hA.c1
    have c2 := hA.c2
    clear hA hB
    go_wp2_with fail
    go_ret
    exact ⟨rfl, HB.out⟩
  by_cases k4 : 1 ≤ k
  case neg =>
    have hf : rightE n v k = false := by unfold rightE; rw [decide_eq_true k0, decide_eq_true k1, decide_eq_true k2, decide_eq_true k3, decide_eq_false k4]; simp
    rw [hf]
    have k0' : (n.length : Int) ≥ 1 := by omega
    have k1' : (n.length : Int) ≤ 32 := by omega
    go_enter Try.func35, Try.ntmps35
    go_upto_region 1 with fail
    refine wp_world (fun W => EA w.heap.size n v k W ∧ Below w.heap.size w W) ⟨EA.new _ _ _ _, bl_alloc (Below.refl _ _) _⟩ ?_
    rintro W ⟨hA, hB⟩
    have HB := Lib.hid hB
    have c0 := hA.c0
    have c1 := hA.c1
    have c2 := hA.c2
    clear hA hB
    go_wp2_with fail
    go_ret
    exact ⟨rfl, HB.out⟩
  by_cases k5 : k < 2305843009213693951
  case neg =>
    have hf : rightE n v k = false := by unfold rightE; rw [decide_eq_true k0, decide_eq_true k1, decide_eq_true k2, decide_eq_true k3, decide_eq_true k4, decide_eq_false k5]; simp
    rw [hf]
    have k0' : (n.length : Int) ≥ 1 := by omega
    have k1' : (n.length : Int) ≤ 32 := by omega
    go_enter Try.func35, Try.ntmps35
    go_upto_region 1 with fail
    refine wp_world (fun W => EA w.heap.size n v k W ∧ Below w.heap.size w W) ⟨EA.new _ _ _ _, bl_alloc (Below.refl _ _) _⟩ ?_
    rintro W ⟨hA, hB⟩
    have HB := Lib.hid hB
    have c0 := hA.c0
    have c1 := hA.c1
    have c2 := hA.c2
    clear hA hB
    go_wp2_with fail
    go_ret
    exact ⟨rfl, HB.out⟩
  have hf : rightE n v k = true := by unfold rightE; rw [decide_eq_true k0, decide_eq_true k1, decide_eq_true k2, decide_eq_true k3, decide_eq_true k4, decide_eq_true k5]; rfl
  rw [hf]
  have k0' : (n.length : Int) ≥ 1 := by omega
  have k1' : (n.length : Int) ≤ 32 := by omega
  go_enter Try.func35, Try.ntmps35
  go_upto_region 1 with fail
  refine wp_world (fun W => EA w.heap.size n v k W ∧ Below w.heap.size w W) ⟨EA.new _ _ _ _, bl_alloc (Below.refl _ _) _⟩ ?_
  rintro W ⟨hA, hB⟩
  have HB := Lib.hid hB
  have c0 := hA.c0
  have c1 := hA.c1
  have c2 := hA.c2
  clear hA hB
  go_wp2_with fail
  go_ret
  exact ⟨rfl, HB.out⟩

set_option maxRecDepth 100000 in
set_option maxHeartbeats 3200000 in
theorem rmay_any (n : List UInt8) (v k : Int) (w : World) :
    Calls Try.prog 31 #[entV n v k] w fun e w' => e = .returned (.bool (rightE n v k)) ∧ Below w.heap.size w w' := by
  show Calls _ _ #[.agg (entCells n v k).toArray] w _
  have hsz : (ByteArray.mk n.toArray).size = n.length := rfl
  by_cases k0 : 1 ≤ n.length
  case neg =>
    have hf : rightE n v k = false := by unfold rightE; rw [decide_eq_false k0]; simp
    rw [hf]
    have k0' : ¬ ((n.length : Int) ≥ 1) := by omega
    go_enter Try.func31, Try.ntmps31
    go_upto_region 1 with fail
    refine wp_world (fun W => EA w.heap.size n v k W ∧ Below w.heap.size w W) ⟨EA.new _ _ _ _, bl_alloc (Below.refl _ _) _⟩ ?_
    rintro W ⟨hA, hB⟩
    have HB := Lib.hid hB
    have c0 := hA.c0
    have c1 := hA.c1
    have c2 := hA.c2
    clear hA hB
    go_wp2_with fail
    go_ret
    exact ⟨rfl, HB.out⟩
  by_cases k1 : n.length ≤ 32
  case neg =>
    have hf : rightE n v k = false := by unfold rightE; rw [decide_eq_true k0, decide_eq_false k1]; simp
    rw [hf]
    have k0' : (n.length : Int) ≥ 1 := by omega
    have k1' : ¬ ((n.length : Int) ≤ 32) := by omega
    go_enter Try.func31, Try.ntmps31
    go_upto_region 1 with fail
    refine wp_world (fun W => EA w.heap.size n v k W ∧ Below w.heap.size w W) ⟨EA.new _ _ _ _, bl_alloc (Below.refl _ _) _⟩ ?_
    rintro W ⟨hA, hB⟩
    have HB := Lib.hid hB
    have c0 := hA.c0
    have c1 := hA.c1
    have c2 := hA.c2
    clear hA hB
    go_wp2_with fail
    go_ret
    exact ⟨rfl, HB.out⟩
  by_cases k2 : 1 ≤ v
  case neg =>
    have hf : rightE n v k = false := by unfold rightE; rw [decide_eq_true k0, decide_eq_true k1, decide_eq_false k2]; simp
    rw [hf]
    have k0' : (n.length : Int) ≥ 1 := by omega
    have k1' : (n.length : Int) ≤ 32 := by omega
    go_enter Try.func31, Try.ntmps31
    go_upto_region 1 with fail
    refine wp_world (fun W => EA w.heap.size n v k W ∧ Below w.heap.size w W) ⟨EA.new _ _ _ _, bl_alloc (Below.refl _ _) _⟩ ?_
    rintro W ⟨hA, hB⟩
    have HB := Lib.hid hB
    have c0 := hA.c0
    have c1 := hA.c1
    have c2 := hA.c2
    clear hA hB
    go_wp2_with fail
    go_ret
    exact ⟨rfl, HB.out⟩
  by_cases k3 : v ≤ 1073741824
  case neg =>
    have hf : rightE n v k = false := by unfold rightE; rw [decide_eq_true k0, decide_eq_true k1, decide_eq_true k2, decide_eq_false k3]; simp
    rw [hf]
    have k0' : (n.length : Int) ≥ 1 := by omega
    have k1' : (n.length : Int) ≤ 32 := by omega
    go_enter Try.func31, Try.ntmps31
    go_upto_region 1 with fail
    refine wp_world (fun W => EA w.heap.size n v k W ∧ Below w.heap.size w W) ⟨EA.new _ _ _ _, bl_alloc (Below.refl _ _) _⟩ ?_
    rintro W ⟨hA, hB⟩
    have HB := Lib.hid hB
    have c0 := hA.c0
    have c1 := hA.c1
    have c2 := hA.c2
    clear hA hB
    go_wp2_with fail
    go_ret
    exact ⟨rfl, HB.out⟩
  by_cases k4 : 1 ≤ k
  case neg =>
    have hf : rightE n v k = false := by unfold rightE; rw [decide_eq_true k0, decide_eq_true k1, decide_eq_true k2, decide_eq_true k3, decide_eq_false k4]; simp
    rw [hf]
    have k0' : (n.length : Int) ≥ 1 := by omega
    have k1' : (n.length : Int) ≤ 32 := by omega
    go_enter Try.func31, Try.ntmps31
    go_upto_region 1 with fail
    refine wp_world (fun W => EA w.heap.size n v k W ∧ Below w.heap.size w W) ⟨EA.new _ _ _ _, bl_alloc (Below.refl _ _) _⟩ ?_
    rintro W ⟨hA, hB⟩
    have HB := Lib.hid hB
    have c0 := hA.c0
    have c1 := hA.c1
    have c2 := hA.c2
    clear hA hB
    go_wp2_with fail
    go_ret
    exact ⟨rfl, HB.out⟩
  by_cases k5 : k < 2305843009213693951
  case neg =>
    have hf : rightE n v k = false := by unfold rightE; rw [decide_eq_true k0, decide_eq_true k1, decide_eq_true k2, decide_eq_true k3, decide_eq_true k4, decide_eq_false k5]; simp
    rw [hf]
    have k0' : (n.length : Int) ≥ 1 := by omega
    have k1' : (n.length : Int) ≤ 32 := by omega
    go_enter Try.func31, Try.ntmps31
    go_upto_region 1 with fail
    refine wp_world (fun W => EA w.heap.size n v k W ∧ Below w.heap.size w W) ⟨EA.new _ _ _ _, bl_alloc (Below.refl _ _) _⟩ ?_
    rintro W ⟨hA, hB⟩
    have HB := Lib.hid hB
    have c0 := hA.c0
    have c1 := hA.c1
    have c2 := hA.c2
    clear hA hB
    go_wp2_with fail
    go_ret
    exact ⟨rfl, HB.out⟩
  have hf : rightE n v k = true := by unfold rightE; rw [decide_eq_true k0, decide_eq_true k1, decide_eq_true k2, decide_eq_true k3, decide_eq_true k4, decide_eq_true k5]; rfl
  rw [hf]
  have k0' : (n.length : Int) ≥ 1 := by omega
  have k1' : (n.length : Int) ≤ 32 := by omega
  go_enter Try.func31, Try.ntmps31
  go_upto_region 1 with fail
  refine wp_world (fun W => EA w.heap.size n v k W ∧ Below w.heap.size w W) ⟨EA.new _ _ _ _, bl_alloc (Below.refl _ _) _⟩ ?_
  rintro W ⟨hA, hB⟩
  have HB := Lib.hid hB
  have c0 := hA.c0
  have c1 := hA.c1
  have c2 := hA.c2
  clear hA hB
  go_wp2_with fail
  go_ret
  exact ⟨rfl, HB.out⟩

set_option maxRecDepth 100000 in
set_option maxHeartbeats 3200000 in
theorem entry_any (u : Up) (w : World) :
    Calls Try.prog 29 #[upV u] w fun e w' => e = .returned (entV u.nm u.ver u.key) ∧ Below w.heap.size w w' := by
  show Calls _ _ #[.agg u.cells.toArray] w _
  go_enter Try.func29, Try.ntmps29
  go_upto_region 1 with fail
  rw [ent_zero]
  refine wp_world (fun W => UA w.heap.size u W ∧ EA (w.heap.size + 1) [] 0 0 W ∧ Below w.heap.size w W) ⟨(UA.new _ _).alloc _, by rw [show w.heap.size + 1 = (w.alloc (.cells u.cells.toArray 27)).heap.size by simp]; exact EA.new [] 0 0 _, bl_alloc (bl_alloc (Below.refl _ _) _) _⟩ ?_
  rintro W ⟨hA, hE, hB⟩
  have HB := Lib.hid hB
  have HE := Lib.hid hE
  have c0 := hA.c0
  have c1 := hA.c1
  have c2 := hA.c2
  clear hA hB hE
  go_wp2_with (first
    | refine wpList_built rfl 48 #[(0, .tmp 4), (1, .tmp 6), (2, .tmp 8)] rfl [(0, .string ⟨u.nm.toArray⟩), (1, .int .i64 u.ver), (2, .int .u64 u.key)] (by simp only [List.map_toArray, List.map_cons, List.map_nil]; rfl) (entCells u.nm u.ver u.key).toArray (built_ent _ _ _) ?_
    | refine wpList_store_row rfl 48 (.tmp 2) (.tmp 9) rfl (w.heap.size + 1) (entCells u.nm u.ver u.key).toArray rfl rfl 48 _ HE.out.row (ent_size _ _ _) rfl (all_oneCell_toArray (entCells_one _ _ _)) ?_)
  exact bodyPost_ret (v := entV u.nm u.ver u.key) (results_cell_row rfl _ _ (w.heap.size + 1) 48 _ (0, 0) _ rfl (setRow_heap _ _ _ _ _ _ HE.out.row) Try.underlying48 rfl (ent_size _ _ _)) rfl ⟨rfl, below_setRow HB.out (by omega)⟩

set_option maxRecDepth 100000 in
set_option maxHeartbeats 3200000 in
theorem rentry_any (u : Up) (w : World) :
    Calls Try.prog 34 #[upV u] w fun e w' => e = .returned (entV u.nm u.ver u.key) ∧ Below w.heap.size w w' := by
  show Calls _ _ #[.agg u.cells.toArray] w _
  go_enter Try.func34, Try.ntmps34
  go_upto_region 1 with fail
  rw [ent_zero]
  refine wp_world (fun W => UA w.heap.size u W ∧ EA (w.heap.size + 1) [] 0 0 W ∧ Below w.heap.size w W) ⟨(UA.new _ _).alloc _, by rw [show w.heap.size + 1 = (w.alloc (.cells u.cells.toArray 27)).heap.size by simp]; exact EA.new [] 0 0 _, bl_alloc (bl_alloc (Below.refl _ _) _) _⟩ ?_
  rintro W ⟨hA, hE, hB⟩
  have HB := Lib.hid hB
  have HE := Lib.hid hE
  have c0 := hA.c0
  have c1 := hA.c1
  have c2 := hA.c2
  clear hA hB hE
  go_wp2_with (first
    | refine wpList_built rfl 48 #[(0, .tmp 4), (1, .tmp 6), (2, .tmp 8)] rfl [(0, .string ⟨u.nm.toArray⟩), (1, .int .i64 u.ver), (2, .int .u64 u.key)] (by simp only [List.map_toArray, List.map_cons, List.map_nil]; rfl) (entCells u.nm u.ver u.key).toArray (built_ent _ _ _) ?_
    | refine wpList_store_row rfl 48 (.tmp 2) (.tmp 9) rfl (w.heap.size + 1) (entCells u.nm u.ver u.key).toArray rfl rfl 48 _ HE.out.row (ent_size _ _ _) rfl (all_oneCell_toArray (entCells_one _ _ _)) ?_)
  exact bodyPost_ret (v := entV u.nm u.ver u.key) (results_cell_row rfl _ _ (w.heap.size + 1) 48 _ (0, 0) _ rfl (setRow_heap _ _ _ _ _ _ HE.out.row) Try.underlying48 rfl (ent_size _ _ _)) rfl ⟨rfl, below_setRow HB.out (by omega)⟩

set_option maxRecDepth 100000 in
set_option maxHeartbeats 3200000 in
theorem rightU_any (u : Up) (w : World) :
    Calls Try.prog 21 #[upV u] w fun e w' => e = .returned (.bool (rightU u)) ∧ Below w.heap.size w w' := by
  show Calls _ _ #[.agg u.cells.toArray] w _
  cases hr : rightE u.nm u.ver u.key with
  | false =>
    have HR := Lib.hid hr
    rw [show rightU u = false by unfold rightU; rw [hr]; rfl]
    clear hr
    go_enter Try.func21, Try.ntmps21
    go_upto_region 1 with fail
    refine wp_world (fun W => UA w.heap.size u W ∧ Below w.heap.size w W) ⟨UA.new _ _, bl_alloc (Below.refl _ _) _⟩ ?_
    rintro W ⟨hA, hB⟩
    have HB := Lib.hid hB
    have HH := Lib.hid hA
    clear hA hB
    go_wp2_with (refine wpList_load_row rfl 27 (.tmp 1) rfl w.heap.size rfl 27 _ (0, 0) _ HH.out.row Try.underlying27 rfl (up_size _) ?_)
    refine (entry_any u _).mono ?_
    rintro e w1 ⟨rfl, hb⟩
    have HB1 := Lib.hid (bl_bl HB.out hb)
    have HH1 := Lib.hid (HH.out.below hb)
    clear hb
    go_wp2_with fail
    refine (may_any u.nm u.ver u.key _).mono ?_
    rintro e w2 ⟨rfl, hb⟩
    rw [HR.out]
    have HB2 := Lib.hid (bl_bl HB1.out hb)
    have c3 := (HH1.out.below hb).c3
    clear hb
    go_wp2_with fail
    go_ret
    exact ⟨rfl, HB2.out⟩
  | true =>
    have HR := Lib.hid hr
    rw [show rightU u = (u.cls == 0 || u.cls == 1) by unfold rightU; rw [hr, Bool.true_and]; rfl]
    clear hr
    go_enter Try.func21, Try.ntmps21
    go_upto_region 1 with fail
    refine wp_world (fun W => UA w.heap.size u W ∧ Below w.heap.size w W) ⟨UA.new _ _, bl_alloc (Below.refl _ _) _⟩ ?_
    rintro W ⟨hA, hB⟩
    have HB := Lib.hid hB
    have HH := Lib.hid hA
    clear hA hB
    go_wp2_with (refine wpList_load_row rfl 27 (.tmp 1) rfl w.heap.size rfl 27 _ (0, 0) _ HH.out.row Try.underlying27 rfl (up_size _) ?_)
    refine (entry_any u _).mono ?_
    rintro e w1 ⟨rfl, hb⟩
    have HB1 := Lib.hid (bl_bl HB.out hb)
    have HH1 := Lib.hid (HH.out.below hb)
    clear hb
    go_wp2_with fail
    refine (may_any u.nm u.ver u.key _).mono ?_
    rintro e w2 ⟨rfl, hb⟩
    rw [HR.out]
    have HB2 := Lib.hid (bl_bl HB1.out hb)
    have c3 := (HH1.out.below hb).c3
    clear hb
    go_wp2_with fail
    all_goals go_ret
    all_goals (refine ⟨congrArg (fun b => Ending.returned (Value.bool b)) ?_, HB2.out⟩; first | rfl | simp [*])

set_option maxRecDepth 100000 in
set_option maxHeartbeats 3200000 in
theorem rrightU_any (u : Up) (w : World) :
    Calls Try.prog 25 #[upV u] w fun e w' => e = .returned (.bool (rightU u)) ∧ Below w.heap.size w w' := by
  show Calls _ _ #[.agg u.cells.toArray] w _
  cases hr : rightE u.nm u.ver u.key with
  | false =>
    have HR := Lib.hid hr
    rw [show rightU u = false by unfold rightU; rw [hr]; rfl]
    clear hr
    go_enter Try.func25, Try.ntmps25
    go_upto_region 1 with fail
    refine wp_world (fun W => UA w.heap.size u W ∧ Below w.heap.size w W) ⟨UA.new _ _, bl_alloc (Below.refl _ _) _⟩ ?_
    rintro W ⟨hA, hB⟩
    have HB := Lib.hid hB
    have HH := Lib.hid hA
    clear hA hB
    go_wp2_with (refine wpList_load_row rfl 27 (.tmp 1) rfl w.heap.size rfl 27 _ (0, 0) _ HH.out.row Try.underlying27 rfl (up_size _) ?_)
    refine (rentry_any u _).mono ?_
    rintro e w1 ⟨rfl, hb⟩
    have HB1 := Lib.hid (bl_bl HB.out hb)
    have HH1 := Lib.hid (HH.out.below hb)
    clear hb
    go_wp2_with fail
    refine (rmay_any u.nm u.ver u.key _).mono ?_
    rintro e w2 ⟨rfl, hb⟩
    rw [HR.out]
    have HB2 := Lib.hid (bl_bl HB1.out hb)
    have c3 := (HH1.out.below hb).c3
    clear hb
    go_wp2_with fail
    go_ret
    exact ⟨rfl, HB2.out⟩
  | true =>
    have HR := Lib.hid hr
    rw [show rightU u = (u.cls == 0 || u.cls == 1) by unfold rightU; rw [hr, Bool.true_and]; rfl]
    clear hr
    go_enter Try.func25, Try.ntmps25
    go_upto_region 1 with fail
    refine wp_world (fun W => UA w.heap.size u W ∧ Below w.heap.size w W) ⟨UA.new _ _, bl_alloc (Below.refl _ _) _⟩ ?_
    rintro W ⟨hA, hB⟩
    have HB := Lib.hid hB
    have HH := Lib.hid hA
    clear hA hB
    go_wp2_with (refine wpList_load_row rfl 27 (.tmp 1) rfl w.heap.size rfl 27 _ (0, 0) _ HH.out.row Try.underlying27 rfl (up_size _) ?_)
    refine (rentry_any u _).mono ?_
    rintro e w1 ⟨rfl, hb⟩
    have HB1 := Lib.hid (bl_bl HB.out hb)
    have HH1 := Lib.hid (HH.out.below hb)
    clear hb
    go_wp2_with fail
    refine (rmay_any u.nm u.ver u.key _).mono ?_
    rintro e w2 ⟨rfl, hb⟩
    rw [HR.out]
    have HB2 := Lib.hid (bl_bl HB1.out hb)
    have c3 := (HH1.out.below hb).c3
    clear hb
    go_wp2_with fail
    all_goals go_ret
    all_goals (refine ⟨congrArg (fun b => Ending.returned (Value.bool b)) ?_, HB2.out⟩; first | rfl | simp [*])

end Go.Proofs.Ytkkgjmfnlabbdaa
