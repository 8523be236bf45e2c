/-
  Heads: a head's box; Right, the program's and the reference's.
-/
import Derived.Test.YteapoemockimfaaHdL
import Derived.Test.YteapoemockimfaaSA
namespace Go.Proofs.Yteapoemockimfaa
set_option linter.unusedVariables false
set_option linter.unusedSimpArgs false
open Go.RowKit

/-- The box of a head stands. -/
structure HA (g : Nat) (h : Hd) (w : World) : Prop where
  row : w.heap[g]? = some (.cells h.cells.toArray 28 (0, 0))
theorem HA.lt {g : Nat} {h : Hd} {w : World} (k : HA g h w) : g < w.heap.size := (Array.getElem?_eq_some_iff.1 k.row).1
theorem HA.below {g : Nat} {h : Hd} {w w' : World} (k : HA g h w) (hb : Below w.heap.size w w') : HA g h w' := ⟨by rw [hb.block g k.lt]; exact k.row⟩
theorem HA.alloc {g : Nat} {h : Hd} {w : World} (k : HA g h w) (o : Obj) : HA g h (w.alloc o) := k.below (bl_alloc (Below.refl _ _) o)
theorem HA.drewN {g : Nat} {h : Hd} {w : World} (k : HA g h w) (n : Nat) : HA g h (w.drewN n) := k.below (Dr.below (Dr.drewN (Dr.refl _) n) _)
theorem HA.drew {g : Nat} {h : Hd} {w : World} (k : HA g h w) : HA g h w.drew := k.drewN 1
theorem HA.new (h : Hd) (w : World) : HA w.heap.size h (w.alloc (.cells h.cells.toArray 28)) := ⟨heap_alloc_new _ _⟩
theorem HA.c0 {g : Nat} {h : Hd} {w : World} (k : HA g h w) : w.cell? ⟨g, 0, none⟩ = some (.int .i64 h.ep) := by rw [cell_of_row _ _ _ _ _ _ k.row]; rfl
theorem HA.c1 {g : Nat} {h : Hd} {w : World} (k : HA g h w) : w.cell? ⟨g, 1, none⟩ = some (.int .i64 h.tk) := by rw [cell_of_row _ _ _ _ _ _ k.row]; rfl
theorem HA.c2 {g : Nat} {h : Hd} {w : World} (k : HA g h w) : w.cell? ⟨g, 2, none⟩ = some (.int .i64 h.ct) := by rw [cell_of_row _ _ _ _ _ _ k.row]; rfl
theorem HA.c67 {g : Nat} {h : Hd} {w : World} (k : HA g h w) (o : h.ok) : w.cell? ⟨g, 67, none⟩ = some (.int .u64 h.r) := by
  rw [cell_of_row _ _ _ _ _ _ k.row, List.getElem?_toArray]
  unfold Hd.cells
  have h1 := o.root
  have h2 := o.log
  rw [List.getElem?_cons_succ, List.getElem?_cons_succ, List.getElem?_cons_succ, List.getElem?_append_right (by rw [bvs_length]; omega), List.getElem?_append_right (by rw [bvs_length, bvs_length]; omega)]
  simp [bvs_length, h1, h2]
theorem HA.c68 {g : Nat} {h : Hd} {w : World} (k : HA g h w) (o : h.ok) : w.cell? ⟨g, 68, none⟩ = some (.int .u64 h.s) := by
  rw [cell_of_row _ _ _ _ _ _ k.row, List.getElem?_toArray]
  unfold Hd.cells
  have h1 := o.root
  have h2 := o.log
  rw [List.getElem?_cons_succ, List.getElem?_cons_succ, List.getElem?_cons_succ, List.getElem?_append_right (by rw [bvs_length]; omega), List.getElem?_append_right (by rw [bvs_length, bvs_length]; omega)]
  simp [bvs_length, h1, h2]
theorem HA.rdRoot {g : Nat} {h : Hd} {w : World} (k : HA g h w) (o : h.ok) : Rd w (.slice (some ⟨g, 3, none⟩) 32 32) h.root := by
  have h1 := o.root
  refine .inr ⟨g, 3, 32, by rw [h1], by omega, by decide, fun i hi => ?_⟩
  rw [cell_of_row _ _ _ _ _ _ k.row, List.getElem?_toArray]
  unfold Hd.cells
  rw [show 3 + i = i + 1 + 1 + 1 by omega, List.getElem?_cons_succ, List.getElem?_cons_succ, List.getElem?_cons_succ, List.getElem?_append_left (by rw [bvs_length]; omega)]
  exact bvs_get _ _ hi
theorem HA.rdLog {g : Nat} {h : Hd} {w : World} (k : HA g h w) (o : h.ok) : Rd w (.slice (some ⟨g, 35, none⟩) 32 32) h.log := by
  have h1 := o.root
  have h2 := o.log
  refine .inr ⟨g, 35, 32, by rw [h2], by omega, by decide, fun i hi => ?_⟩
  rw [cell_of_row _ _ _ _ _ _ k.row, List.getElem?_toArray]
  unfold Hd.cells
  rw [show 35 + i = (32 + i) + 1 + 1 + 1 by omega, List.getElem?_cons_succ, List.getElem?_cons_succ, List.getElem?_cons_succ, List.getElem?_append_right (by rw [bvs_length]; omega), bvs_length, h1, show 32 + i - 32 = i by omega, List.getElem?_append_left (by rw [bvs_length]; omega)]
  exact bvs_get _ _ hi
theorem head_info : (Try.prog.info? 28).map (·.size) = some 69 := by kernel_rfl

set_option maxRecDepth 100000 in
set_option maxHeartbeats 3200000 in
theorem right_any (h : Hd) (w : World) :
    Calls Try.prog 12 #[headV h] w fun e w' => e = .returned (.bool (rightF h)) ∧ Below w.heap.size w w' := by
  show Calls _ _ #[.agg h.cells.toArray] w _
  by_cases k0 : 1 ≤ h.ep
  case neg =>
    have hf : rightF h = false := by unfold rightF; rw [decide_eq_false k0]; simp
    rw [hf]
    go_enter Try.func12, Try.ntmps12
    go_upto_region 1 with fail
    refine wp_world (fun W => HA w.heap.size h W ∧ Below w.heap.size w W) ⟨HA.new _ _, bl_alloc (Below.refl _ _) _⟩ ?_
    rintro W ⟨hA, hB⟩
    have HB := Lib.hid hB
    have c0 := hA.c0
    have c1 := hA.c1
    have c2 := hA.c2
    clear hA hB
    go_wp2_with fail
    go_ret
    exact ⟨rfl, HB.out⟩
  by_cases k1 : h.ep ≤ 1073741824
  case neg =>
    have hf : rightF h = false := by unfold rightF; rw [decide_eq_true k0, decide_eq_false k1]; simp
    rw [hf]
    go_enter Try.func12, Try.ntmps12
    go_upto_region 1 with fail
    refine wp_world (fun W => HA w.heap.size h W ∧ Below w.heap.size w W) ⟨HA.new _ _, bl_alloc (Below.refl _ _) _⟩ ?_
    rintro W ⟨hA, hB⟩
    have HB := Lib.hid hB
    have c0 := hA.c0
    have c1 := hA.c1
    have c2 := hA.c2
    clear hA hB
    go_wp2_with fail
    go_ret
    exact ⟨rfl, HB.out⟩
  by_cases k2 : 0 ≤ h.tk
  case neg =>
    have hf : rightF h = false := by unfold rightF; rw [decide_eq_true k0, decide_eq_true k1, decide_eq_false k2]; simp
    rw [hf]
    go_enter Try.func12, Try.ntmps12
    go_upto_region 1 with fail
    refine wp_world (fun W => HA w.heap.size h W ∧ Below w.heap.size w W) ⟨HA.new _ _, bl_alloc (Below.refl _ _) _⟩ ?_
    rintro W ⟨hA, hB⟩
    have HB := Lib.hid hB
    have c0 := hA.c0
    have c1 := hA.c1
    have c2 := hA.c2
    clear hA hB
    go_wp2_with fail
    go_ret
    exact ⟨rfl, HB.out⟩
  by_cases k3 : h.tk ≤ 1152921504606846976
  case neg =>
    have hf : rightF h = false := by unfold rightF; rw [decide_eq_true k0, decide_eq_true k1, decide_eq_true k2, decide_eq_false k3]; simp
    rw [hf]
    go_enter Try.func12, Try.ntmps12
    go_upto_region 1 with fail
    refine wp_world (fun W => HA w.heap.size h W ∧ Below w.heap.size w W) ⟨HA.new _ _, bl_alloc (Below.refl _ _) _⟩ ?_
    rintro W ⟨hA, hB⟩
    have HB := Lib.hid hB
    have c0 := hA.c0
    have c1 := hA.c1
    have c2 := hA.c2
    clear hA hB
    go_wp2_with fail
    go_ret
    exact ⟨rfl, HB.out⟩
  by_cases k4 : 1 ≤ h.ct
  case neg =>
    have hf : rightF h = false := by unfold rightF; rw [decide_eq_true k0, decide_eq_true k1, decide_eq_true k2, decide_eq_true k3, decide_eq_false k4]; simp
    rw [hf]
    go_enter Try.func12, Try.ntmps12
    go_upto_region 1 with fail
    refine wp_world (fun W => HA w.heap.size h W ∧ Below w.heap.size w W) ⟨HA.new _ _, bl_alloc (Below.refl _ _) _⟩ ?_
    rintro W ⟨hA, hB⟩
    have HB := Lib.hid hB
    have c0 := hA.c0
    have c1 := hA.c1
    have c2 := hA.c2
    clear hA hB
    go_wp2_with fail
    go_ret
    exact ⟨rfl, HB.out⟩
  by_cases k5 : h.ct ≤ 8
  case neg =>
    have hf : rightF h = false := by unfold rightF; rw [decide_eq_true k0, decide_eq_true k1, decide_eq_true k2, decide_eq_true k3, decide_eq_true k4, decide_eq_false k5]; simp
    rw [hf]
    go_enter Try.func12, Try.ntmps12
    go_upto_region 1 with fail
    refine wp_world (fun W => HA w.heap.size h W ∧ Below w.heap.size w W) ⟨HA.new _ _, bl_alloc (Below.refl _ _) _⟩ ?_
    rintro W ⟨hA, hB⟩
    have HB := Lib.hid hB
    have c0 := hA.c0
    have c1 := hA.c1
    have c2 := hA.c2
    clear hA hB
    go_wp2_with fail
    go_ret
    exact ⟨rfl, HB.out⟩
  have hf : rightF h = true := by unfold rightF; rw [decide_eq_true k0, decide_eq_true k1, decide_eq_true k2, decide_eq_true k3, decide_eq_true k4, decide_eq_true k5]; rfl
  rw [hf]
  go_enter Try.func12, Try.ntmps12
  go_upto_region 1 with fail
  refine wp_world (fun W => HA w.heap.size h W ∧ Below w.heap.size w W) ⟨HA.new _ _, bl_alloc (Below.refl _ _) _⟩ ?_
  rintro W ⟨hA, hB⟩
  have HB := Lib.hid hB
  have c0 := hA.c0
  have c1 := hA.c1
  have c2 := hA.c2
  clear hA hB
  go_wp2_with fail
  go_ret
  exact ⟨rfl, HB.out⟩

set_option maxRecDepth 100000 in
set_option maxHeartbeats 3200000 in
theorem rright_any (h : Hd) (w : World) :
    Calls Try.prog 13 #[headV h] w fun e w' => e = .returned (.bool (rightF h)) ∧ Below w.heap.size w w' := by
  show Calls _ _ #[.agg h.cells.toArray] w _
  by_cases k0 : 1 ≤ h.ep
  case neg =>
    have hf : rightF h = false := by unfold rightF; rw [decide_eq_false k0]; simp
    rw [hf]
    go_enter Try.func13, Try.ntmps13
    go_upto_region 1 with fail
    refine wp_world (fun W => HA w.heap.size h W ∧ Below w.heap.size w W) ⟨HA.new _ _, bl_alloc (Below.refl _ _) _⟩ ?_
    rintro W ⟨hA, hB⟩
    have HB := Lib.hid hB
    have c0 := hA.c0
    have c1 := hA.c1
    have c2 := hA.c2
    clear hA hB
    go_wp2_with fail
    go_ret
    exact ⟨rfl, HB.out⟩
  by_cases k1 : h.ep ≤ 1073741824
  case neg =>
    have hf : rightF h = false := by unfold rightF; rw [decide_eq_true k0, decide_eq_false k1]; simp
    rw [hf]
    go_enter Try.func13, Try.ntmps13
    go_upto_region 1 with fail
    refine wp_world (fun W => HA w.heap.size h W ∧ Below w.heap.size w W) ⟨HA.new _ _, bl_alloc (Below.refl _ _) _⟩ ?_
    rintro W ⟨hA, hB⟩
    have HB := Lib.hid hB
    have c0 := hA.c0
    have c1 := hA.c1
    have c2 := hA.c2
    clear hA hB
    go_wp2_with fail
    go_ret
    exact ⟨rfl, HB.out⟩
  by_cases k2 : 0 ≤ h.tk
  case neg =>
    have hf : rightF h = false := by unfold rightF; rw [decide_eq_true k0, decide_eq_true k1, decide_eq_false k2]; simp
    rw [hf]
    go_enter Try.func13, Try.ntmps13
    go_upto_region 1 with fail
    refine wp_world (fun W => HA w.heap.size h W ∧ Below w.heap.size w W) ⟨HA.new _ _, bl_alloc (Below.refl _ _) _⟩ ?_
    rintro W ⟨hA, hB⟩
    have HB := Lib.hid hB
    have c0 := hA.c0
    have c1 := hA.c1
    have c2 := hA.c2
    clear hA hB
    go_wp2_with fail
    go_ret
    exact ⟨rfl, HB.out⟩
  by_cases k3 : h.tk ≤ 1152921504606846976
  case neg =>
    have hf : rightF h = false := by unfold rightF; rw [decide_eq_true k0, decide_eq_true k1, decide_eq_true k2, decide_eq_false k3]; simp
    rw [hf]
    go_enter Try.func13, Try.ntmps13
    go_upto_region 1 with fail
    refine wp_world (fun W => HA w.heap.size h W ∧ Below w.heap.size w W) ⟨HA.new _ _, bl_alloc (Below.refl _ _) _⟩ ?_
    rintro W ⟨hA, hB⟩
    have HB := Lib.hid hB
    have c0 := hA.c0
    have c1 := hA.c1
    have c2 := hA.c2
    clear hA hB
    go_wp2_with fail
    go_ret
    exact ⟨rfl, HB.out⟩
  by_cases k4 : 1 ≤ h.ct
  case neg =>
    have hf : rightF h = false := by unfold rightF; rw [decide_eq_true k0, decide_eq_true k1, decide_eq_true k2, decide_eq_true k3, decide_eq_false k4]; simp
    rw [hf]
    go_enter Try.func13, Try.ntmps13
    go_upto_region 1 with fail
    refine wp_world (fun W => HA w.heap.size h W ∧ Below w.heap.size w W) ⟨HA.new _ _, bl_alloc (Below.refl _ _) _⟩ ?_
    rintro W ⟨hA, hB⟩
    have HB := Lib.hid hB
    have c0 := hA.c0
    have c1 := hA.c1
    have c2 := hA.c2
    clear hA hB
    go_wp2_with fail
    go_ret
    exact ⟨rfl, HB.out⟩
  by_cases k5 : h.ct ≤ 8
  case neg =>
    have hf : rightF h = false := by unfold rightF; rw [decide_eq_true k0, decide_eq_true k1, decide_eq_true k2, decide_eq_true k3, decide_eq_true k4, decide_eq_false k5]; simp
    rw [hf]
    go_enter Try.func13, Try.ntmps13
    go_upto_region 1 with fail
    refine wp_world (fun W => HA w.heap.size h W ∧ Below w.heap.size w W) ⟨HA.new _ _, bl_alloc (Below.refl _ _) _⟩ ?_
    rintro W ⟨hA, hB⟩
    have HB := Lib.hid hB
    have c0 := hA.c0
    have c1 := hA.c1
    have c2 := hA.c2
    clear hA hB
    go_wp2_with fail
    go_ret
    exact ⟨rfl, HB.out⟩
  have hf : rightF h = true := by unfold rightF; rw [decide_eq_true k0, decide_eq_true k1, decide_eq_true k2, decide_eq_true k3, decide_eq_true k4, decide_eq_true k5]; rfl
  rw [hf]
  go_enter Try.func13, Try.ntmps13
  go_upto_region 1 with fail
  refine wp_world (fun W => HA w.heap.size h W ∧ Below w.heap.size w W) ⟨HA.new _ _, bl_alloc (Below.refl _ _) _⟩ ?_
  rintro W ⟨hA, hB⟩
  have HB := Lib.hid hB
  have c0 := hA.c0
  have c1 := hA.c1
  have c2 := hA.c2
  clear hA hB
  go_wp2_with fail
  go_ret
  exact ⟨rfl, HB.out⟩
end Go.Proofs.Yteapoemockimfaa
