/-
  UpdateTells: for every input the law returns true.
-/
import Derived.Test.YtjfkkcoapeipbaaUpB
import Derived.Test.YtjfkkcoapeipbaaUpH
namespace Go.Proofs.Ytjfkkcoapeipbaa
set_option linter.unusedVariables false
set_option linter.unusedSimpArgs false
open Go.RowKit

theorem yields_neq_ent {ops : Array Oper} {S : World → Prop} {op : Oper} {a : Act} (hw : Region.wanted op (yielded ops a.tmps) = true) (x y : Operand) (T : TypeId) (ho : op.op = .binOp .neq 47 x y T) (n : List UInt8) (v k : Int) (hx : a.eval x = entV n v k) (hy : a.eval y = entV n v k) (hn : n.length ≤ 1048576) (hv : isI64 v) (hk : isU64 k) :
    YieldsIf Try.prog ops S op (.bool false) a :=
  .inl ⟨hw, fun w _ => by
    unfold execOp
    simp only [ho, hx, hy, Sem.run_bind, guard_ent, neq_ent n v k hn hv hk, Result.andThen_ok, Sem.run_pure]⟩
theorem EA.range {g : Nat} {n : List UInt8} {v k : Int} {w : World} (h : EA g n v k w) : w.rangeAt g 0 (entCells n v k) := fun j x hx => by
  rw [cell_of_row _ _ _ _ _ _ h.row, Nat.zero_add, List.getElem?_toArray]
  exact hx
theorem yields_ent {ops : Array Oper} {S : World → Prop} {op : Oper} {a : Act} (hw : Region.wanted op (yielded ops a.tmps) = true) (x : Operand) (ho : op.op = .load 47 x) (g : Nat) (n : List UInt8) (v k : Int)
    (hx : a.eval x = .pointer (some ⟨g, 0, none⟩)) (hS : ∀ w, S w → EA g n v k w) : YieldsIf Try.prog ops S op (entV n v k) a :=
  yieldsIf_load_mid hw 47 x ho g 0 hx (entCells n v k) _ (fun w hw' => (hS w hw').range) Try.underlying47 rfl (by rw [ent_size n v k, List.size_toArray])
theorem yields_conv_bs {ops : Array Oper} {S : World → Prop} {op : Oper} {a : Act} (hw : Region.wanted op (yielded ops a.tmps) = true) (x : Operand) (ho : op.op = .convert 22 9 x) {v : Value} {l : List UInt8} (hx : a.eval x = v) (hS : ∀ w, S w → Rd w v l) :
    YieldsIf Try.prog ops S op (.string ⟨l.toArray⟩) a :=
  .inl ⟨hw, fun w hw' => by
    unfold execOp
    simp only [ho, hx, Sem.run_bind, conv_rd (hS w hw'), Result.andThen_ok, Sem.run_pure]⟩
/-- Four requests in a row. -/
structure L4 (g : Nat) (a b c d : Up) (w : World) : Prop where
  row : w.heap[g]? = some (.cells (a.cells ++ (b.cells ++ (c.cells ++ d.cells))).toArray 30 (0, 0))
theorem L4.below {g : Nat} {a b c d : Up} {w w' : World} (k : L4 g a b c d w) (hb : Below w.heap.size w w') : L4 g a b c d w' := ⟨by rw [hb.block g (Array.getElem?_eq_some_iff.1 k.row).1]; exact k.row⟩
theorem L4.alloc {g : Nat} {a b c d : Up} {w : World} (k : L4 g a b c d w) (o : Obj) : L4 g a b c d (w.alloc o) := k.below (bl_alloc (Below.refl _ _) o)
theorem L4.drewN {g : Nat} {a b c d : Up} {w : World} (k : L4 g a b c d w) (n : Nat) : L4 g a b c d (w.drewN n) := k.below (Dr.below (Dr.drewN (Dr.refl _) n) _)
theorem L4.drew {g : Nat} {a b c d : Up} {w : World} (k : L4 g a b c d w) : L4 g a b c d w.drew := k.drewN 1
theorem L4.rg {g : Nat} {a b c d : Up} {w : World} (k : L4 g a b c d w) (o : Nat) (cs : List Value) (h : ∀ j v, cs[j]? = some v → (a.cells ++ (b.cells ++ (c.cells ++ d.cells)))[o + j]? = some v) : w.rangeAt g o cs := fun j v hv => by
  rw [cell_of_row _ _ _ _ _ _ k.row, List.getElem?_toArray]
  exact h j v hv
theorem at6 {xs : List Value} {ys : List Value} (hx : xs.length = 6) (j : Nat) : (xs ++ ys)[6 + j]? = ys[j]? := by
  rw [List.getElem?_append_right (by omega), hx, Nat.add_sub_cancel_left]
theorem in6 {xs ys : List Value} {j : Nat} {v : Value} (h : xs[j]? = some v) : (xs ++ ys)[j]? = some v := by
  rw [List.getElem?_append_left (List.getElem?_eq_some_iff.1 h).1]; exact h
theorem L4.r0 {g : Nat} {a b c d : Up} {w : World} (k : L4 g a b c d w) : w.rangeAt g 0 a.cells := k.rg 0 _ fun j v hv => by rw [Nat.zero_add]; exact in6 hv
theorem L4.r1 {g : Nat} {a b c d : Up} {w : World} (k : L4 g a b c d w) : w.rangeAt g 6 b.cells := k.rg 6 _ fun j v hv => by rw [at6 rfl]; exact in6 hv
theorem L4.r2 {g : Nat} {a b c d : Up} {w : World} (k : L4 g a b c d w) : w.rangeAt g 12 c.cells := k.rg 12 _ fun j v hv => by rw [show 12 + j = 6 + (6 + j) by omega, at6 rfl, at6 rfl]; exact in6 hv
theorem L4.r3 {g : Nat} {a b c d : Up} {w : World} (k : L4 g a b c d w) : w.rangeAt g 18 d.cells := k.rg 18 _ fun j v hv => by rw [show 18 + j = 6 + (6 + (6 + j)) by omega, at6 rfl, at6 rfl, at6 rfl]; exact hv
theorem run_build4 (a b c d : Up) (w : World) : (Instr.buildSlice 41 4 #[(0, upV a), (1, upV b), (2, upV c), (3, upV d)]).run Try.prog w = .ok (.slice (some ⟨w.heap.size, 0, none⟩) 4 4) (w.alloc (.cells (a.cells ++ (b.cells ++ (c.cells ++ d.cells))).toArray 30)) := by kernel_rfl
theorem run_build3 (a b c : Int) (w : World) : (Instr.buildSlice 53 3 #[(0, .int .u64 a), (1, .int .u64 b), (2, .int .u64 c)]).run Try.prog w = .ok (.slice (some ⟨w.heap.size, 0, none⟩) 3 3) (w.alloc (.cells #[.int .u64 a, .int .u64 b, .int .u64 c] 26)) := by kernel_rfl
theorem run_build_op {a : Act} {o : Oper} {w : World} {t : TypeId} {n : Nat} {parts : Array (Nat × Operand)} {vals : Array (Nat × Value)} {v : Value} {w' : World} (ho : o.op = .buildSlice t n parts) (hv : parts.map (fun (i, x) => (i, a.eval x)) = vals) (h : (Instr.buildSlice t n vals).run Try.prog w = .ok v w') : (execOp a.eval o).run Try.prog w = .ok (.value v) w' := by
  unfold execOp
  simp only [ho, hv, Sem.run_bind, h, Result.andThen_ok, Sem.run_pure]
theorem RdN.alloc {w : World} {v : Value} {l : List Int} (h : RdN w v l) (o : Obj) : RdN (w.alloc o) v l := h.below (bl_alloc (Below.refl _ _) o)
theorem RdN.drewN {w : World} {v : Value} {l : List Int} (h : RdN w v l) (n : Nat) : RdN (w.drewN n) v l := h.below (Dr.below (Dr.drewN (Dr.refl _) n) _)
theorem RdN.drew {w : World} {v : Value} {l : List Int} (h : RdN w v l) : RdN w.drew v l := h.drewN 1
theorem rdn_three (w : World) {a b c : Int} (T : TypeId) (ha : isU64 a) (hb : isU64 b) (hc : isU64 c) : RdN (w.alloc (.cells #[.int .u64 a, .int .u64 b, .int .u64 c] T)) (.slice (some ⟨w.heap.size, 0, none⟩) 3 3) [a, b, c] := by
  refine .inr ⟨_, 0, 3, rfl, by simp, by decide, fun i hi => ?_⟩
  rw [Nat.zero_add, cell_of_row _ _ _ _ _ _ (heap_alloc_new _ _)]
  match i, hi with
  | 0, _ => exact ⟨rfl, ha⟩
  | 1, _ => exact ⟨rfl, hb⟩
  | 2, _ => exact ⟨rfl, hc⟩
theorem RdN.at_ {w : World} {g n c : Nat} {l : List Int} (h : RdN w (.slice (some ⟨g, 0, none⟩) n c) l) (i : Nat) (hi : i < l.length) : ∃ z, w.cell? ⟨g, i, none⟩ = some (.int .u64 z) ∧ isU64 z := by
  rcases h with ⟨h, _⟩ | ⟨b, o, c', h, _, _, hc⟩
  · cases h
  · simp only [Value.slice.injEq, Option.some.injEq, Addr.mk.injEq, and_true] at h
    obtain ⟨⟨rfl, rfl⟩, _, rfl⟩ := h
    have h1 := hc i hi
    rw [Nat.zero_add] at h1
    exact ⟨_, h1.1, h1.2⟩
attribute [local irreducible] checkF checkU rightU signU pubF readU bytesU seatU nameL keyF bentU putUErr putUOut

set_option maxRecDepth 100000 in
set_option maxHeartbeats 64000000 in
theorem updateTells_walk (u0 : Up) (k ver cl hw what v : Int) (s : List UInt8) (secret key : Int) (w : World) (w0 : u0.inn) (w1 : (Lit.int .u8 k).wf = true) (w2 : (Lit.int .i64 ver).wf = true) (w3 : (Lit.int .u8 cl).wf = true) (w4 : (Lit.int .u8 hw).wf = true) (w5 : (Lit.int .u8 what).wf = true) (w6 : (Lit.int .i64 v).wf = true) (w7 : s.length ≤ maxLen) (w8 : (Lit.int .u64 secret).wf = true) (w9 : (Lit.int .u64 key).wf = true) :
    Calls Try.prog 4 #[upV u0, .int .u8 k, .int .i64 ver, .int .u8 cl, .int .u8 hw, .int .u8 what, .int .i64 v, .string ⟨s.toArray⟩, .int .u64 secret, .int .u64 key] w fun e w' => e = .returned (.bool true) ∧ Below w.heap.size w w' := by
  show Calls _ _ #[.agg u0.cells.toArray, .int .u8 k, .int .i64 ver, .int .u8 cl, .int .u8 hw, .int .u8 what, .int .i64 v, .string ⟨s.toArray⟩, .int .u64 secret, .int .u64 key] w _
  obtain ⟨k0, k1⟩ := bounds_u8 w1
  obtain ⟨cl0, cl1⟩ := bounds_u8 w3
  obtain ⟨hw0, hw1⟩ := bounds_u8 w4
  obtain ⟨wh0, wh1⟩ := bounds_u8 w5
  obtain ⟨v0, v1⟩ := bounds_i64 w6
  obtain ⟨se0, se1⟩ := bounds_u64 w8
  obtain ⟨ke0, ke1⟩ := bounds_u64 w9
  have HVV := Lib.hid (show isI64 v from ⟨v0, by omega⟩)
  have hs1 : (ByteArray.mk u0.nm.toArray).size = u0.nm.length := rfl
  have hs2 : (ByteArray.mk s.toArray).size = s.length := rfl
  clear w1 w2 w3 w4 w5 w6 w8 w9
  by_cases hg1 : 60 < u0.nm.length
  · have hb1 : decide ((60 : Int) < (u0.nm.length : Int)) = true := decide_eq_true (by omega)
    clear hg1
    go_enter Try.func4, Try.ntmps4
    go_upto_region 1 with fail
    refine wp_world (fun W => UA w.heap.size u0 W ∧ Below w.heap.size w W) ⟨UA.new _ _, bl_alloc (Below.refl _ _) _⟩ ?_
    rintro W ⟨hA, hB⟩
    have HA := Lib.hid hA
    have HB := Lib.hid hB
    clear hA hB
    go_wp2_with fail
    refine (knownU_any _).mono ?_
    rintro e w1 ⟨rfl, hb0⟩
    have c0 := (HA.out.below hb0).c0
    have HB1 := Lib.hid (bl_bl HB.out hb0)
    clear hb0
    go_wp2_with fail
    go_ret
    exact ⟨rfl, HB1.out⟩
  have hb1 : decide ((60 : Int) < (u0.nm.length : Int)) = false := decide_eq_false (by omega)
  by_cases hg2 : 60 < s.length
  · have hb2 : decide ((60 : Int) < (s.length : Int)) = true := decide_eq_true (by omega)
    clear hg1 hg2
    go_enter Try.func4, Try.ntmps4
    go_upto_region 1 with fail
    refine wp_world (fun W => UA w.heap.size u0 W ∧ Below w.heap.size w W) ⟨UA.new _ _, bl_alloc (Below.refl _ _) _⟩ ?_
    rintro W ⟨hA, hB⟩
    have HA := Lib.hid hA
    have HB := Lib.hid hB
    clear hA hB
    go_wp2_with fail
    refine (knownU_any _).mono ?_
    rintro e w1 ⟨rfl, hb0⟩
    have c0 := (HA.out.below hb0).c0
    have HB1 := Lib.hid (bl_bl HB.out hb0)
    clear hb0
    go_wp2_with fail
    go_ret
    exact ⟨rfl, HB1.out⟩
  have hb2 : decide ((60 : Int) < (s.length : Int)) = false := decide_eq_false (by omega)
  have ok0 : u0.ok := ⟨by omega, w0.ver, w0.key, w0.cls, w0.r, w0.s⟩
  have HSL := Lib.hid (show s.length ≤ 1048576 by omega)
  obtain ⟨n7, hn7, hand7⟩ := and_i64 ver 7 (by decide)
  obtain ⟨n3, hn3, hand3⟩ := and_i64 v 3 (by decide)
  have hand7' : bits .and .i64 ver 7 = (n7 : Int) := hand7
  have hand3' : bits .and .i64 v 3 = (n3 : Int) := hand3
  have hwn : IntKind.i64.wrap ((n7 : Int) + 1) = (n7 : Int) + 1 := by rw [IntKind.wrap_i64]; omega
  obtain ⟨nl0, nl1⟩ := nameL_len k
  have HNL := Lib.hid (show (nameL k).length ≤ 1048576 by omega)
  have oku := seatU_ok (nameL k) ((n7 : Int) + 1) cl hw (by omega) (by omega) (by omega) cl0
  have HNM := Lib.hid (fun w => name_any k w k0 (by omega))
  have HUP := Lib.hid (fun w => seatUpd_any (nameL k) ((n7 : Int) + 1) cl hw w (by omega) (by omega) (by omega) cl0 (by omega) hw0 (by omega))
  generalize seatU (nameL k) ((n7 : Int) + 1) cl hw = u at *
  have HOK0 := Lib.hid ok0
  have HOK1 := Lib.hid oku
  have HOK2 := Lib.hid (bentU_ok u what v s oku HSL.out HVV.out)
  have HOK3 := Lib.hid (bentU_ok u what (n3 : Int) [97] oku (by decide) ⟨by omega, by omega⟩)
  have HN37 := Lib.hid (show n3 ≤ 3 ∧ n7 ≤ 7 from ⟨hn3, hn7⟩)
  clear hg1 hg2 ok0 oku w0 w7 hand7 hand3 nl0 nl1
  go_enter Try.func4, Try.ntmps4
  go_upto_region 1 with fail
  refine wp_world (fun W => UA w.heap.size u0 W ∧ Below w.heap.size w W) ⟨UA.new _ _, bl_alloc (Below.refl _ _) _⟩ ?_
  rintro W ⟨hA, hB⟩
  have HA := Lib.hid hA
  have HB := Lib.hid hB
  clear hA hB
  go_wp2_with fail
  refine (knownU_any _).mono ?_
  rintro e w1 ⟨rfl, hb0⟩
  have HA1 := Lib.hid (HA.out.below hb0)
  have c0 := (HA.out.below hb0).c0
  have HB1 := Lib.hid (bl_bl HB.out hb0)
  clear hb0 HA HB
  go_wp2_with fail
  refine (HNM.out _).mono ?_
  rintro e w2 ⟨rfl, hb⟩
  have HA2 := Lib.hid (HA1.out.below hb)
  have HB2 := Lib.hid (bl_bl HB1.out hb)
  clear hb c0 HA1 HB1
  go_wp2_with fail
  refine (HUP.out _).mono ?_
  rintro e w3 ⟨rfl, hb⟩
  have HA3 := Lib.hid (HA2.out.below hb)
  have HB3 := Lib.hid (bl_bl HB2.out hb)
  clear hb HA2 HB2
  go_upto_region 6 with (refine wpList_store_row rfl 30 (.tmp 21) (.tmp 51) rfl w3.heap.size u.cells.toArray rfl rfl 30 _ (heap_alloc_new _ _) (up_size _) rfl (all_oneCell_toArray (Up.cells_one _)) ?_)
  refine wp_world (fun Y => UA w.heap.size u0 Y ∧ UA w3.heap.size u Y ∧ Below w.heap.size w Y) ⟨HA3.out.below (below_fresh _ _ _), ⟨setRow_heap _ _ _ _ _ _ (heap_alloc_new _ _)⟩, bl_bl HB3.out (below_fresh _ _ _)⟩ ?_
  generalize w3.heap.size = g21
  clear HA3 HB3 W
  rintro W ⟨h1, h2, h3⟩
  have HA10 := Lib.hid h1
  have HA21 := Lib.hid h2
  have HB := Lib.hid h3
  clear h1 h2 h3
  (try simp only [Act.put, List.setIfInBounds_toArray, List.set_cons_zero, List.set_cons_succ])
  refine wp_region_noPanic ?_
  refine wp_region_held_drew (S := (fun w' => UA w.heap.size u0 w' ∧ UA g21 u w')) (by kernel_rfl) ?_ (fun hHeld => ?_)
  · (try dsimp only); (refine ⟨?_, ?_⟩ <;> repeat (first | exact HA10.out | exact HA21.out | apply UA.drew | apply UA.drewN | apply UA.alloc))
  refine wpAnyH_take (i := 0) (by simp only [List.getElem?_toArray, List.getElem?_cons_succ, List.getElem?_cons_zero]; first | done | rfl) (by kernel_rfl) (by kernel_rfl) (by kernel_rfl) (fun _ _ _ h => h) (yields_up (by rfl) _ rfl w.heap.size u0 rfl (fun w hw => hw.1)) (by assumption) ?_
  try simp only [Act.put, List.setIfInBounds_toArray, List.set_cons_zero, List.set_cons_succ]
  refine wpAnyH_take (i := 1) (by simp only [List.getElem?_toArray, List.getElem?_cons_succ, List.getElem?_cons_zero]; first | done | rfl) (by kernel_rfl) (by kernel_rfl) (by kernel_rfl) (fun _ _ _ h => h) (yields_up (by rfl) _ rfl g21 u rfl (fun w hw => hw.2)) (by assumption) ?_
  try simp only [Act.put, List.setIfInBounds_toArray, List.set_cons_zero, List.set_cons_succ]
  refine wpAnyH_take (i := 2) (by simp only [List.getElem?_toArray, List.getElem?_cons_succ, List.getElem?_cons_zero]; first | done | rfl) (by kernel_rfl) (by kernel_rfl) (by kernel_rfl) (fun _ _ _ h => h) (yields_up (by rfl) _ rfl g21 u rfl (fun w hw => hw.2)) (by assumption) ?_
  try simp only [Act.put, List.setIfInBounds_toArray, List.set_cons_zero, List.set_cons_succ]
  refine wpAnyH_take (i := 3) (v := ?_) (by simp only [List.getElem?_toArray, List.getElem?_cons_succ, List.getElem?_cons_zero]; first | done | rfl) (by kernel_rfl) (by kernel_rfl) (by kernel_rfl) (fun _ _ _ h => h) (Or.inl ⟨by rfl, ?hy⟩) (by assumption) ?_
  case hy => (intro w hSw; (try dsimp only at hSw); go_simp; all_goals with_reducible rfl)
  try simp only [Act.put, List.setIfInBounds_toArray, List.set_cons_zero, List.set_cons_succ]
  refine wpAnyH_take (i := 4) (v := ?_) (by simp only [List.getElem?_toArray, List.getElem?_cons_succ, List.getElem?_cons_zero]; first | done | rfl) (by kernel_rfl) (by kernel_rfl) (by kernel_rfl) (fun _ _ _ h => h) (Or.inl ⟨by rfl, ?hy⟩) (by assumption) ?_
  case hy => (intro w hSw; (try dsimp only at hSw); go_simp; all_goals with_reducible rfl)
  try simp only [Act.put, List.setIfInBounds_toArray, List.set_cons_zero, List.set_cons_succ]
  refine wpAnyH_take (i := 5) (v := ?_) (by simp only [List.getElem?_toArray, List.getElem?_cons_succ, List.getElem?_cons_zero]; first | done | rfl) (by kernel_rfl) (by kernel_rfl) (by kernel_rfl) (fun _ _ _ h => h) (Or.inl ⟨by rfl, ?hy⟩) (by assumption) ?_
  case hy => (intro w hSw; (try dsimp only at hSw); go_simp; all_goals with_reducible rfl)
  try simp only [Act.put, List.setIfInBounds_toArray, List.set_cons_zero, List.set_cons_succ]
  refine wpAnyH_take (i := 7) (by simp only [List.getElem?_toArray, List.getElem?_cons_succ, List.getElem?_cons_zero]; first | done | rfl) (by kernel_rfl) (by kernel_rfl) (by kernel_rfl) (fun _ _ _ h => h) (yields_up (by rfl) _ rfl g21 u rfl (fun w hw => hw.2)) (by assumption) ?_
  try simp only [Act.put, List.setIfInBounds_toArray, List.set_cons_zero, List.set_cons_succ]
  refine wpAnyH_take (i := 8) (v := ?_) (by simp only [List.getElem?_toArray, List.getElem?_cons_succ, List.getElem?_cons_zero]; first | done | rfl) (by kernel_rfl) (by kernel_rfl) (by kernel_rfl) (fun _ _ _ h => h) (Or.inl ⟨by rfl, ?hy⟩) (by assumption) ?_
  case hy => (intro w hSw; (try dsimp only at hSw); go_simp; all_goals with_reducible rfl)
  try simp only [Act.put, List.setIfInBounds_toArray, List.set_cons_zero, List.set_cons_succ]
  refine wpAnyH_take (i := 9) (v := ?_) (by simp only [List.getElem?_toArray, List.getElem?_cons_succ, List.getElem?_cons_zero]; first | done | rfl) (by kernel_rfl) (by kernel_rfl) (by kernel_rfl) (fun _ _ _ h => h) (Or.inl ⟨by rfl, ?hy⟩) (by assumption) ?_
  case hy => (intro w hSw; (try dsimp only at hSw); go_simp; all_goals with_reducible rfl)
  try simp only [Act.put, List.setIfInBounds_toArray, List.set_cons_zero, List.set_cons_succ]
  refine wpAnyH_take (i := 10) (v := ?_) (by simp only [List.getElem?_toArray, List.getElem?_cons_succ, List.getElem?_cons_zero]; first | done | rfl) (by kernel_rfl) (by kernel_rfl) (by kernel_rfl) (fun _ _ _ h => h) (Or.inl ⟨by rfl, ?hy⟩) (by assumption) ?_
  case hy => (intro w hSw; (try dsimp only at hSw); go_simp; all_goals with_reducible rfl)
  try simp only [Act.put, List.setIfInBounds_toArray, List.set_cons_zero, List.set_cons_succ]
  refine wpAnyH_take (i := 14) (v := ?_) (by simp only [List.getElem?_toArray, List.getElem?_cons_succ, List.getElem?_cons_zero]; first | done | rfl) (by kernel_rfl) (by kernel_rfl) (by kernel_rfl) (fun _ _ _ h => h) (Or.inl ⟨by rfl, ?hy⟩) (by assumption) ?_
  case hy => (intro w hSw; (try dsimp only at hSw); go_simp; all_goals with_reducible rfl)
  try simp only [Act.put, List.setIfInBounds_toArray, List.set_cons_zero, List.set_cons_succ]
  refine wpAnyH_ready (rs := [6]) (by kernel_rfl) (by simp) ?_
  refine AllReadyH.cons (by simp only [List.getElem?_toArray, List.getElem?_cons_succ, List.getElem?_cons_zero]; first | done | rfl) (fun K hK => ?_) ?_
  · skip
    refine step_call (by rfl) (bent_any u what v s _ wh0 (by omega) HVV.out) (by go_simp) ?_
    rintro e v2 ⟨rfl, hb2⟩
    refine ⟨_, rfl, ?_⟩
    have HA10' := Lib.hid (UA.below (by repeat (first | exact HA10.out | apply UA.drew | apply UA.drewN | apply UA.alloc)) hb2)
    have HA21' := Lib.hid (UA.below (by repeat (first | exact HA21.out | apply UA.drew | apply UA.drewN | apply UA.alloc)) hb2)
    have HB' := Lib.hid (bl_bl (by repeat (first | exact HB.out | apply bl_drew | apply bl_drewN | apply bl_alloc)) hb2)
    clear hb2
    have HA10 := HA10'
    have HA21 := HA21'
    have HB := HB'
    clear HA10' HA21' HB'
    refine hK.out _ _ ?_ (fun hHeld => ?_)
    · (try dsimp only); (refine ⟨?_, ?_⟩ <;> repeat (first | exact HA10.out | exact HA21.out | apply UA.drew | apply UA.drewN | apply UA.alloc))
    clear hK K
    try simp only [Act.put, List.setIfInBounds_toArray, List.set_cons_zero, List.set_cons_succ]
    refine wpAnyH_ready (rs := [11]) (by kernel_rfl) (by simp) ?_
    refine AllReadyH.cons (by simp only [List.getElem?_toArray, List.getElem?_cons_succ, List.getElem?_cons_zero]; first | done | rfl) (fun K hK => ?_) ?_
    · skip
      refine step_call (by rfl) (bent_any u what (n3 : Int) [97] _ wh0 (by omega) ⟨by omega, by omega⟩) (by go_simp) ?_
      rintro e v2 ⟨rfl, hb2⟩
      refine ⟨_, rfl, ?_⟩
      have HA10' := Lib.hid (UA.below (by repeat (first | exact HA10.out | apply UA.drew | apply UA.drewN | apply UA.alloc)) hb2)
      have HA21' := Lib.hid (UA.below (by repeat (first | exact HA21.out | apply UA.drew | apply UA.drewN | apply UA.alloc)) hb2)
      have HB' := Lib.hid (bl_bl (by repeat (first | exact HB.out | apply bl_drew | apply bl_drewN | apply bl_alloc)) hb2)
      clear hb2
      have HA10 := HA10'
      have HA21 := HA21'
      have HB := HB'
      clear HA10' HA21' HB'
      refine hK.out _ _ ?_ (fun hHeld => ?_)
      · (try dsimp only); (refine ⟨?_, ?_⟩ <;> repeat (first | exact HA10.out | exact HA21.out | apply UA.drew | apply UA.drewN | apply UA.alloc))
      clear hK K
      try simp only [Act.put, List.setIfInBounds_toArray, List.set_cons_zero, List.set_cons_succ]
      refine wpAnyH_ready (rs := [12]) (by kernel_rfl) (by simp) ?_
      refine AllReadyH.cons (by simp only [List.getElem?_toArray, List.getElem?_cons_succ, List.getElem?_cons_zero]; first | done | rfl) (fun K hK => ?_) ?_
      · skip
        refine step_value (by rfl) (run_build_op (vals := #[(0, upV u0), (1, upV u), (2, upV (bentU u what v s)), (3, upV (bentU u what (n3 : Int) [97]))]) rfl (by simp only [List.map_toArray, List.map_cons, List.map_nil]; rfl) (run_build4 u0 u (bentU u what v s) (bentU u what (n3 : Int) [97]) _)) ?_
        try dsimp only
        obtain ⟨g64, hg64⟩ : ∃ g64, g64 = v2.heap.size := ⟨_, rfl⟩
        rw [← hg64]
        refine k_world (fun W' => L4 g64 u0 u (bentU u what v s) (bentU u what (n3 : Int) [97]) W' ∧ Below w.heap.size w W' ∧ UA w.heap.size u0 W' ∧ UA g21 u W') ⟨(by rw [hg64]; exact ⟨heap_alloc_new _ _⟩), bl_alloc (by repeat (first | exact HB.out | apply bl_drew | apply bl_drewN | apply bl_alloc)) _, UA.alloc (by repeat (first | exact HA10.out | apply UA.drew | apply UA.drewN | apply UA.alloc)) _, UA.alloc (by repeat (first | exact HA21.out | apply UA.drew | apply UA.drewN | apply UA.alloc)) _⟩ ?_
        rintro v2 ⟨h4, hb, ha, hu⟩
        clear HB HA10 HA21 hg64
        have HL4 := Lib.hid h4
        have HB := Lib.hid hb
        have HA10 := Lib.hid ha
        have HA21 := Lib.hid hu
        clear h4 hb ha hu
        refine hK.out _ _ ?_ (fun hHeld => ?_)
        · (try dsimp only); (refine ⟨?_, ?_⟩ <;> repeat (first | exact HA10.out | exact HA21.out | apply UA.drew | apply UA.drewN | apply UA.alloc))
        clear hK K
        try simp only [Act.put, List.setIfInBounds_toArray, List.set_cons_zero, List.set_cons_succ]
        refine wpAnyH_take (i := 13) (v := ?_) (by simp only [List.getElem?_toArray, List.getElem?_cons_succ, List.getElem?_cons_zero]; first | done | rfl) (by kernel_rfl) (by kernel_rfl) (by kernel_rfl) (fun _ _ _ h => h) (Or.inl ⟨by rfl, ?hy⟩) (by assumption) ?_
        case hy => (intro w hSw; (try dsimp only at hSw); go_simp; all_goals with_reducible rfl)
        try simp only [Act.put, List.setIfInBounds_toArray, List.set_cons_zero, List.set_cons_succ]
        refine wpAnyH_done (by kernel_rfl) ?_ _
        refine NoPanic.normal ?_
        go_wp2_with fail
        go_loopw [66] (fun v66 wr => ∃ i : Nat, v66 = .int .i64 i ∧ i ≤ 4 ∧ L4 g64 u0 u (bentU u what v s) (bentU u what (n3 : Int) [97]) wr ∧ Below w.heap.size w wr) (fun v66 _ => 4 - (intOf v66).toNat)
        case atStart => exact ⟨0, rfl, by omega, HL4.out, HB.out⟩
        case round =>
          obtain ⟨i, rfl, hi, h1, h2⟩ := hrel
          clear HL4 HB HA10 HA21
          have HL4 := Lib.hid h1
          have HB := Lib.hid h2
          clear h1 h2
          by_cases hlt : i < 4
          · go_upto_region 8 with fail
            go_cut [23] (fun s23 wx => ∃ X g23, s23 = .pointer (some ⟨g23, 0, none⟩) ∧ Up.ok X ∧ UA g23 X wx ∧ L4 g64 u0 u (bentU u what v s) (bentU u what (n3 : Int) [97]) wx ∧ Below w.heap.size w wx)
            case first =>
              rcases (show i = 0 ∨ i = 1 ∨ i = 2 ∨ i = 3 by omega) with rfl | rfl | rfl | rfl
              · go_wp2_with (first
                  | refine wpList_load_mid rfl 30 (.tmp 68) rfl g64 0 rfl (Up.cells (u0)) _ HL4.out.r0 Try.underlying30 rfl (by rw [up_size (u0), List.size_toArray]) ?_
                  | refine wpList_store_row rfl 30 (.tmp 23) (.tmp 69) rfl wr.heap.size (u0).cells.toArray rfl rfl 30 _ (heap_alloc_new _ _) (up_size _) rfl (all_oneCell_toArray (Up.cells_one _)) ?_)
                go_meet
                exact ⟨_, _, rfl, HOK0.out, ⟨setRow_heap _ _ _ _ _ _ (heap_alloc_new _ _)⟩, HL4.out.below (below_fresh _ _ _), bl_bl HB.out (below_fresh _ _ _)⟩
              · go_wp2_with (first
                  | refine wpList_load_mid rfl 30 (.tmp 68) rfl g64 6 rfl (Up.cells (u)) _ HL4.out.r1 Try.underlying30 rfl (by rw [up_size (u), List.size_toArray]) ?_
                  | refine wpList_store_row rfl 30 (.tmp 23) (.tmp 69) rfl wr.heap.size (u).cells.toArray rfl rfl 30 _ (heap_alloc_new _ _) (up_size _) rfl (all_oneCell_toArray (Up.cells_one _)) ?_)
                go_meet
                exact ⟨_, _, rfl, HOK1.out, ⟨setRow_heap _ _ _ _ _ _ (heap_alloc_new _ _)⟩, HL4.out.below (below_fresh _ _ _), bl_bl HB.out (below_fresh _ _ _)⟩
              · go_wp2_with (first
                  | refine wpList_load_mid rfl 30 (.tmp 68) rfl g64 12 rfl (Up.cells (bentU u what v s)) _ HL4.out.r2 Try.underlying30 rfl (by rw [up_size (bentU u what v s), List.size_toArray]) ?_
                  | refine wpList_store_row rfl 30 (.tmp 23) (.tmp 69) rfl wr.heap.size (bentU u what v s).cells.toArray rfl rfl 30 _ (heap_alloc_new _ _) (up_size _) rfl (all_oneCell_toArray (Up.cells_one _)) ?_)
                go_meet
                exact ⟨_, _, rfl, HOK2.out, ⟨setRow_heap _ _ _ _ _ _ (heap_alloc_new _ _)⟩, HL4.out.below (below_fresh _ _ _), bl_bl HB.out (below_fresh _ _ _)⟩
              · go_wp2_with (first
                  | refine wpList_load_mid rfl 30 (.tmp 68) rfl g64 18 rfl (Up.cells (bentU u what (n3 : Int) [97])) _ HL4.out.r3 Try.underlying30 rfl (by rw [up_size (bentU u what (n3 : Int) [97]), List.size_toArray]) ?_
                  | refine wpList_store_row rfl 30 (.tmp 23) (.tmp 69) rfl wr.heap.size (bentU u what (n3 : Int) [97]).cells.toArray rfl rfl 30 _ (heap_alloc_new _ _) (up_size _) rfl (all_oneCell_toArray (Up.cells_one _)) ?_)
                go_meet
                exact ⟨_, _, rfl, HOK3.out, ⟨setRow_heap _ _ _ _ _ _ (heap_alloc_new _ _)⟩, HL4.out.below (below_fresh _ _ _), bl_bl HB.out (below_fresh _ _ _)⟩
            case rest =>
              obtain ⟨X, g23, rfl, okX, hx, h4, hb⟩ := hcut
              clear HL4 HB
              have OKX := Lib.hid okX
              have OKS := Lib.hid (signU_ok secret X okX)
              have HX := Lib.hid hx
              have HL4 := Lib.hid h4
              have HB := Lib.hid hb
              clear okX hx h4 hb
              go_wp2_with (refine wpList_load_up_g (by rfl) (.tmp 23) rfl g23 X rfl HX.out ?_)
              refine (putU_any X _ OKX.out).mono ?_
              rintro e w2 ⟨v2, rfl, hu, hb⟩
              obtain ⟨pa, pc, rfl⟩ := hu.shape
              have HP2 := Lib.hid hu
              have HX2 := Lib.hid (HX.out.below hb)
              have HL42 := Lib.hid (HL4.out.below hb)
              have HB2 := Lib.hid (bl_bl HB.out hb)
              clear hu hb HX HL4 HB
              go_wp2_with (refine wpList_load_up_g (by rfl) (.tmp 23) rfl g23 X rfl HX2.out ?_)
              refine (rputU_any X _ OKX.out).mono ?_
              rintro e w3 ⟨v3, rfl, hu, hb⟩
              obtain ⟨qa, qc, rfl⟩ := hu.shape
              have HQ3 := Lib.hid hu
              have HP3 := Lib.hid (HP2.out.below hb)
              have HX3 := Lib.hid (HX2.out.below hb)
              have HL43 := Lib.hid (HL42.out.below hb)
              have HB3 := Lib.hid (bl_bl HB2.out hb)
              clear hu hb HX2 HL42 HB2 HP2
              go_wp2_with (refine wpList_load_up_g (by rfl) (.tmp 23) rfl g23 X rfl HX3.out ?_)
              refine (rentry_any X _).mono ?_
              rintro e w4 ⟨rfl, hb⟩
              have HQ4 := Lib.hid (HQ3.out.below hb)
              have HP4 := Lib.hid (HP3.out.below hb)
              have HX4 := Lib.hid (HX3.out.below hb)
              have HL44 := Lib.hid (HL43.out.below hb)
              have HB4 := Lib.hid (bl_bl HB3.out hb)
              clear hb HX3 HL43 HB3 HP3 HQ3
              go_upto_region 12 with (refine wpList_store_row rfl 47 (.tmp 28) (.tmp 81) rfl w4.heap.size (entCells X.nm X.ver X.key).toArray rfl rfl 47 _ (heap_alloc_new _ _) (ent_size _ _ _) rfl (all_oneCell_toArray (entCells_one _ _ _)) ?_)
              refine wp_world (fun Y => UA g23 X Y ∧ EA w4.heap.size X.nm X.ver X.key Y ∧ L4 g64 u0 u (bentU u what v s) (bentU u what (n3 : Int) [97]) Y ∧ Below w.heap.size w Y ∧ Rd Y (.slice pa (putUOut X).length pc) (putUOut X) ∧ Rd Y (.slice qa (putUOut X).length qc) (putUOut X)) ⟨HX4.out.below (below_fresh _ _ _), ⟨setRow_heap _ _ _ _ _ _ (heap_alloc_new _ _)⟩, HL44.out.below (below_fresh _ _ _), bl_bl HB4.out (below_fresh _ _ _), HP4.out.below (below_fresh _ _ _), HQ4.out.below (below_fresh _ _ _)⟩ ?_
              generalize w4.heap.size = g28
              clear HX4 HL44 HB4 HP4 HQ4
              rintro W ⟨h1, h2, h3, h4, h5, h6⟩
              have HX := Lib.hid h1
              have HE := Lib.hid h2
              have HL4 := Lib.hid h3
              have HB := Lib.hid h4
              have HP := Lib.hid h5
              have HQ := Lib.hid h6
              clear h1 h2 h3 h4 h5 h6
              (try simp only [Act.put, List.setIfInBounds_toArray, List.set_cons_zero, List.set_cons_succ])
              go_cut [122] (fun s122 wx => s122 = .bool false ∧ UA g23 X wx ∧ L4 g64 u0 u (bentU u what v s) (bentU u what (n3 : Int) [97]) wx ∧ Rd wx (.slice qa (putUOut X).length qc) (putUOut X) ∧ Below w.heap.size w wx)
              case first =>
                refine wp_region_noPanic ?_
                refine wp_region_held_drew (S := (fun w' => UA g23 X w' ∧ EA g28 X.nm X.ver X.key w' ∧ Rd w' (.slice pa (putUOut X).length pc) (putUOut X) ∧ Rd w' (.slice qa (putUOut X).length qc) (putUOut X))) (by kernel_rfl) ?_ (fun hHeld => ?_)
                · (try dsimp only); (refine ⟨?_, ?_, ?_, ?_⟩ <;> repeat (first | exact HX.out | exact HE.out | exact HP.out | exact HQ.out | apply UA.drew | apply UA.drewN | apply UA.alloc | apply EA.drew | apply EA.drewN | apply EA.alloc | apply rd_drew | apply rd_drewN | apply rd_alloc))
                refine wpAnyH_take (i := 0) (v := ?_) (by simp only [List.getElem?_toArray, List.getElem?_cons_succ, List.getElem?_cons_zero]; first | done | rfl) (by kernel_rfl) (by kernel_rfl) (by kernel_rfl) (fun _ _ _ h => h) (Or.inl ⟨by rfl, ?hy⟩) (by assumption) ?_
                case hy => (intro w hSw; (try dsimp only at hSw); go_simp; all_goals with_reducible rfl)
                try simp only [Act.put, List.setIfInBounds_toArray, List.set_cons_zero, List.set_cons_succ]
                refine wpAnyH_take (i := 1) (v := ?_) (by simp only [List.getElem?_toArray, List.getElem?_cons_succ, List.getElem?_cons_zero]; first | done | rfl) (by kernel_rfl) (by kernel_rfl) (by kernel_rfl) (fun _ _ _ h => h) (Or.inl ⟨by rfl, ?hy⟩) (by assumption) ?_
                case hy => (intro w hSw; (try dsimp only at hSw); go_simp; all_goals with_reducible rfl)
                try simp only [Act.put, List.setIfInBounds_toArray, List.set_cons_zero, List.set_cons_succ]
                refine wpAnyH_take (i := 2) (v := ?_) (by simp only [List.getElem?_toArray, List.getElem?_cons_succ, List.getElem?_cons_zero]; first | done | rfl) (by kernel_rfl) (by kernel_rfl) (by kernel_rfl) (fun _ _ _ h => h) (Or.inl ⟨by rfl, ?hy⟩) (by assumption) ?_
                case hy => (intro w hSw; (try dsimp only at hSw); go_simp; all_goals with_reducible rfl)
                try simp only [Act.put, List.setIfInBounds_toArray, List.set_cons_zero, List.set_cons_succ]
                refine wpAnyH_take (i := 3) (v := ?_) (by simp only [List.getElem?_toArray, List.getElem?_cons_succ, List.getElem?_cons_zero]; first | done | rfl) (by kernel_rfl) (by kernel_rfl) (by kernel_rfl) (fun _ _ _ h => h) (Or.inl ⟨by rfl, ?hy⟩) (by assumption) ?_
                case hy => (intro w hSw; (try dsimp only at hSw); go_simp; all_goals with_reducible rfl)
                try simp only [Act.put, List.setIfInBounds_toArray, List.set_cons_zero, List.set_cons_succ]
                refine wpAnyH_take (i := 4) (v := ?_) (by simp only [List.getElem?_toArray, List.getElem?_cons_succ, List.getElem?_cons_zero]; first | done | rfl) (by kernel_rfl) (by kernel_rfl) (by kernel_rfl) (fun _ _ _ h => h) (Or.inl ⟨by rfl, ?hy⟩) (by assumption) ?_
                case hy => (intro w hSw; (try dsimp only at hSw); go_simp; all_goals with_reducible rfl)
                try simp only [Act.put, List.setIfInBounds_toArray, List.set_cons_zero, List.set_cons_succ]
                refine wpAnyH_take (i := 5) (by simp only [List.getElem?_toArray, List.getElem?_cons_succ, List.getElem?_cons_zero]; first | done | rfl) (by kernel_rfl) (by kernel_rfl) (by kernel_rfl) (fun _ _ _ h => h) (yields_conv_bs (by rfl) (.tmp 86) rfl (v := .slice pa (putUOut X).length pc) rfl (fun w hw => hw.2.2.1)) (by assumption) ?_
                try simp only [Act.put, List.setIfInBounds_toArray, List.set_cons_zero, List.set_cons_succ]
                refine wpAnyH_take (i := 6) (v := ?_) (by simp only [List.getElem?_toArray, List.getElem?_cons_succ, List.getElem?_cons_zero]; first | done | rfl) (by kernel_rfl) (by kernel_rfl) (by kernel_rfl) (fun _ _ _ h => h) (Or.inl ⟨by rfl, ?hy⟩) (by assumption) ?_
                case hy => (intro w hSw; (try dsimp only at hSw); go_simp; all_goals with_reducible rfl)
                try simp only [Act.put, List.setIfInBounds_toArray, List.set_cons_zero, List.set_cons_succ]
                refine wpAnyH_take (i := 7) (by simp only [List.getElem?_toArray, List.getElem?_cons_succ, List.getElem?_cons_zero]; first | done | rfl) (by kernel_rfl) (by kernel_rfl) (by kernel_rfl) (fun _ _ _ h => h) (yields_conv_bs (by rfl) (.tmp 88) rfl (v := .slice qa (putUOut X).length qc) rfl (fun w hw => hw.2.2.2)) (by assumption) ?_
                try simp only [Act.put, List.setIfInBounds_toArray, List.set_cons_zero, List.set_cons_succ]
                refine wpAnyH_take (i := 8) (v := ?_) (by simp only [List.getElem?_toArray, List.getElem?_cons_succ, List.getElem?_cons_zero]; first | done | rfl) (by kernel_rfl) (by kernel_rfl) (by kernel_rfl) (fun _ _ _ h => h) (Or.inl ⟨by rfl, ?hy⟩) (by assumption) ?_
                case hy => (intro w hSw; (try dsimp only at hSw); go_simp; all_goals with_reducible rfl)
                try simp only [Act.put, List.setIfInBounds_toArray, List.set_cons_zero, List.set_cons_succ]
                refine wpAnyH_take (i := 9) (v := ?_) (by simp only [List.getElem?_toArray, List.getElem?_cons_succ, List.getElem?_cons_zero]; first | done | rfl) (by kernel_rfl) (by kernel_rfl) (by kernel_rfl) (fun _ _ _ h => h) (Or.inl ⟨by rfl, ?hy⟩) (by assumption) ?_
                case hy => (intro w hSw; (try dsimp only at hSw); go_simp; all_goals with_reducible rfl)
                try simp only [Act.put, List.setIfInBounds_toArray, List.set_cons_zero, List.set_cons_succ]
                refine wpAnyH_take (i := 10) (v := ?_) (by simp only [List.getElem?_toArray, List.getElem?_cons_succ, List.getElem?_cons_zero]; first | done | rfl) (by kernel_rfl) (by kernel_rfl) (by kernel_rfl) (fun _ _ _ h => h) (Or.inl ⟨by rfl, ?hy⟩) (by assumption) ?_
                case hy => (intro w hSw; (try dsimp only at hSw); go_simp; all_goals with_reducible rfl)
                try simp only [Act.put, List.setIfInBounds_toArray, List.set_cons_zero, List.set_cons_succ]
                refine wpAnyH_take (i := 11) (by simp only [List.getElem?_toArray, List.getElem?_cons_succ, List.getElem?_cons_zero]; first | done | rfl) (by kernel_rfl) (by kernel_rfl) (by kernel_rfl) (fun _ _ _ h => h) (yields_up (by rfl) _ rfl g23 X rfl (fun w hw => hw.1)) (by assumption) ?_
                try simp only [Act.put, List.setIfInBounds_toArray, List.set_cons_zero, List.set_cons_succ]
                refine wpAnyH_take (i := 13) (by simp only [List.getElem?_toArray, List.getElem?_cons_succ, List.getElem?_cons_zero]; first | done | rfl) (by kernel_rfl) (by kernel_rfl) (by kernel_rfl) (fun _ _ _ h => h) (yields_up (by rfl) _ rfl g23 X rfl (fun w hw => hw.1)) (by assumption) ?_
                try simp only [Act.put, List.setIfInBounds_toArray, List.set_cons_zero, List.set_cons_succ]
                refine wpAnyH_ready (rs := [12]) (by kernel_rfl) (by simp) ?_
                refine AllReadyH.cons (by simp only [List.getElem?_toArray, List.getElem?_cons_succ, List.getElem?_cons_zero]; first | done | rfl) (fun K hK => ?_) ?_
                · skip
                  refine step_call (by rfl) (rightU_any X _) (by go_simp) ?_
                  rintro e v2 ⟨rfl, hb2⟩
                  refine ⟨_, rfl, ?_⟩
                  have HX' := Lib.hid (UA.below (by repeat (first | exact HX.out | apply UA.drew | apply UA.drewN | apply UA.alloc)) hb2)
                  have HE' := Lib.hid (EA.below (by repeat (first | exact HE.out | apply EA.drew | apply EA.drewN | apply EA.alloc)) hb2)
                  have HL4' := Lib.hid (L4.below (by repeat (first | exact HL4.out | apply L4.drew | apply L4.drewN | apply L4.alloc)) hb2)
                  have HB' := Lib.hid (bl_bl (by repeat (first | exact HB.out | apply bl_drew | apply bl_drewN | apply bl_alloc)) hb2)
                  have HP' := Lib.hid (Rd.below (by repeat (first | exact HP.out | apply rd_drew | apply rd_drewN | apply rd_alloc)) hb2)
                  have HQ' := Lib.hid (Rd.below (by repeat (first | exact HQ.out | apply rd_drew | apply rd_drewN | apply rd_alloc)) hb2)
                  clear hb2
                  have HX := HX'
                  have HE := HE'
                  have HL4 := HL4'
                  have HB := HB'
                  have HP := HP'
                  have HQ := HQ'
                  clear HX' HE' HL4' HB' HP' HQ'
                  refine hK.out _ _ ?_ (fun hHeld => ?_)
                  · (try dsimp only); (refine ⟨?_, ?_, ?_, ?_⟩ <;> repeat (first | exact HX.out | exact HE.out | exact HP.out | exact HQ.out | apply UA.drew | apply UA.drewN | apply UA.alloc | apply EA.drew | apply EA.drewN | apply EA.alloc | apply rd_drew | apply rd_drewN | apply rd_alloc))
                  clear hK K
                  try simp only [Act.put, List.setIfInBounds_toArray, List.set_cons_zero, List.set_cons_succ]
                  refine wpAnyH_ready (rs := [14]) (by kernel_rfl) (by simp) ?_
                  refine AllReadyH.cons (by simp only [List.getElem?_toArray, List.getElem?_cons_succ, List.getElem?_cons_zero]; first | done | rfl) (fun K hK => ?_) ?_
                  · skip
                    refine step_call (by rfl) (rrightU_any X _) (by go_simp) ?_
                    rintro e v2 ⟨rfl, hb2⟩
                    refine ⟨_, rfl, ?_⟩
                    have HX' := Lib.hid (UA.below (by repeat (first | exact HX.out | apply UA.drew | apply UA.drewN | apply UA.alloc)) hb2)
                    have HE' := Lib.hid (EA.below (by repeat (first | exact HE.out | apply EA.drew | apply EA.drewN | apply EA.alloc)) hb2)
                    have HL4' := Lib.hid (L4.below (by repeat (first | exact HL4.out | apply L4.drew | apply L4.drewN | apply L4.alloc)) hb2)
                    have HB' := Lib.hid (bl_bl (by repeat (first | exact HB.out | apply bl_drew | apply bl_drewN | apply bl_alloc)) hb2)
                    have HP' := Lib.hid (Rd.below (by repeat (first | exact HP.out | apply rd_drew | apply rd_drewN | apply rd_alloc)) hb2)
                    have HQ' := Lib.hid (Rd.below (by repeat (first | exact HQ.out | apply rd_drew | apply rd_drewN | apply rd_alloc)) hb2)
                    clear hb2
                    have HX := HX'
                    have HE := HE'
                    have HL4 := HL4'
                    have HB := HB'
                    have HP := HP'
                    have HQ := HQ'
                    clear HX' HE' HL4' HB' HP' HQ'
                    refine hK.out _ _ ?_ (fun hHeld => ?_)
                    · (try dsimp only); (refine ⟨?_, ?_, ?_, ?_⟩ <;> repeat (first | exact HX.out | exact HE.out | exact HP.out | exact HQ.out | apply UA.drew | apply UA.drewN | apply UA.alloc | apply EA.drew | apply EA.drewN | apply EA.alloc | apply rd_drew | apply rd_drewN | apply rd_alloc))
                    clear hK K
                    try simp only [Act.put, List.setIfInBounds_toArray, List.set_cons_zero, List.set_cons_succ]
                    refine wpAnyH_take (i := 15) (v := ?_) (by simp only [List.getElem?_toArray, List.getElem?_cons_succ, List.getElem?_cons_zero]; first | done | rfl) (by kernel_rfl) (by kernel_rfl) (by kernel_rfl) (fun _ _ _ h => h) (Or.inl ⟨by rfl, ?hy⟩) (by assumption) ?_
                    case hy => (intro w hSw; (try dsimp only at hSw); go_simp; all_goals with_reducible rfl)
                    try simp only [Act.put, List.setIfInBounds_toArray, List.set_cons_zero, List.set_cons_succ]
                    refine wpAnyH_take (i := 16) (v := ?_) (by simp only [List.getElem?_toArray, List.getElem?_cons_succ, List.getElem?_cons_zero]; first | done | rfl) (by kernel_rfl) (by kernel_rfl) (by kernel_rfl) (fun _ _ _ h => h) (Or.inl ⟨by rfl, ?hy⟩) (by assumption) ?_
                    case hy => (intro w hSw; (try dsimp only at hSw); go_simp; all_goals with_reducible rfl)
                    try simp only [Act.put, List.setIfInBounds_toArray, List.set_cons_zero, List.set_cons_succ]
                    refine wpAnyH_take (i := 17) (v := ?_) (by simp only [List.getElem?_toArray, List.getElem?_cons_succ, List.getElem?_cons_zero]; first | done | rfl) (by kernel_rfl) (by kernel_rfl) (by kernel_rfl) (fun _ _ _ h => h) (Or.inl ⟨by rfl, ?hy⟩) (by assumption) ?_
                    case hy => (intro w hSw; (try dsimp only at hSw); go_simp; all_goals with_reducible rfl)
                    try simp only [Act.put, List.setIfInBounds_toArray, List.set_cons_zero, List.set_cons_succ]
                    refine wpAnyH_take (i := 18) (by simp only [List.getElem?_toArray, List.getElem?_cons_succ, List.getElem?_cons_zero]; first | done | rfl) (by kernel_rfl) (by kernel_rfl) (by kernel_rfl) (fun _ _ _ h => h) (yields_up (by rfl) _ rfl g23 X rfl (fun w hw => hw.1)) (by assumption) ?_
                    try simp only [Act.put, List.setIfInBounds_toArray, List.set_cons_zero, List.set_cons_succ]
                    refine wpAnyH_take (i := 20) (by simp only [List.getElem?_toArray, List.getElem?_cons_succ, List.getElem?_cons_zero]; first | done | rfl) (by kernel_rfl) (by kernel_rfl) (by kernel_rfl) (fun _ _ _ h => h) (yields_ent (by rfl) _ rfl g28 X.nm X.ver X.key rfl (fun w hw => hw.2.1)) (by assumption) ?_
                    try simp only [Act.put, List.setIfInBounds_toArray, List.set_cons_zero, List.set_cons_succ]
                    refine wpAnyH_ready (rs := [19]) (by kernel_rfl) (by simp) ?_
                    refine AllReadyH.cons (by simp only [List.getElem?_toArray, List.getElem?_cons_succ, List.getElem?_cons_zero]; first | done | rfl) (fun K hK => ?_) ?_
                    · skip
                      refine step_call (by rfl) (entry_any X _) (by go_simp) ?_
                      rintro e v2 ⟨rfl, hb2⟩
                      refine ⟨_, rfl, ?_⟩
                      have HX' := Lib.hid (UA.below (by repeat (first | exact HX.out | apply UA.drew | apply UA.drewN | apply UA.alloc)) hb2)
                      have HE' := Lib.hid (EA.below (by repeat (first | exact HE.out | apply EA.drew | apply EA.drewN | apply EA.alloc)) hb2)
                      have HL4' := Lib.hid (L4.below (by repeat (first | exact HL4.out | apply L4.drew | apply L4.drewN | apply L4.alloc)) hb2)
                      have HB' := Lib.hid (bl_bl (by repeat (first | exact HB.out | apply bl_drew | apply bl_drewN | apply bl_alloc)) hb2)
                      have HP' := Lib.hid (Rd.below (by repeat (first | exact HP.out | apply rd_drew | apply rd_drewN | apply rd_alloc)) hb2)
                      have HQ' := Lib.hid (Rd.below (by repeat (first | exact HQ.out | apply rd_drew | apply rd_drewN | apply rd_alloc)) hb2)
                      clear hb2
                      have HX := HX'
                      have HE := HE'
                      have HL4 := HL4'
                      have HB := HB'
                      have HP := HP'
                      have HQ := HQ'
                      clear HX' HE' HL4' HB' HP' HQ'
                      refine hK.out _ _ ?_ (fun hHeld => ?_)
                      · (try dsimp only); (refine ⟨?_, ?_, ?_, ?_⟩ <;> repeat (first | exact HX.out | exact HE.out | exact HP.out | exact HQ.out | apply UA.drew | apply UA.drewN | apply UA.alloc | apply EA.drew | apply EA.drewN | apply EA.alloc | apply rd_drew | apply rd_drewN | apply rd_alloc))
                      clear hK K
                      try simp only [Act.put, List.setIfInBounds_toArray, List.set_cons_zero, List.set_cons_succ]
                      refine wpAnyH_take (i := 21) (by simp only [List.getElem?_toArray, List.getElem?_cons_succ, List.getElem?_cons_zero]; first | done | rfl) (by kernel_rfl) (by kernel_rfl) (by kernel_rfl) (fun _ _ _ h => h) (yields_neq_ent (by rfl) _ _ _ rfl X.nm X.ver X.key rfl rfl OKX.out.nm OKX.out.ver OKX.out.key) (by assumption) ?_
                      try simp only [Act.put, List.setIfInBounds_toArray, List.set_cons_zero, List.set_cons_succ]
                      refine wpAnyH_take (i := 22) (v := ?_) (by simp only [List.getElem?_toArray, List.getElem?_cons_succ, List.getElem?_cons_zero]; first | done | rfl) (by kernel_rfl) (by kernel_rfl) (by kernel_rfl) (fun _ _ _ h => h) (Or.inl ⟨by rfl, ?hy⟩) (by assumption) ?_
                      case hy => (intro w hSw; (try dsimp only at hSw); go_simp; all_goals with_reducible rfl)
                      try simp only [Act.put, List.setIfInBounds_toArray, List.set_cons_zero, List.set_cons_succ]
                      refine wpAnyH_take (i := 23) (v := ?_) (by simp only [List.getElem?_toArray, List.getElem?_cons_succ, List.getElem?_cons_zero]; first | done | rfl) (by kernel_rfl) (by kernel_rfl) (by kernel_rfl) (fun _ _ _ h => h) (Or.inl ⟨by rfl, ?hy⟩) (by assumption) ?_
                      case hy => (intro w hSw; (try dsimp only at hSw); go_simp; all_goals with_reducible rfl)
                      try simp only [Act.put, List.setIfInBounds_toArray, List.set_cons_zero, List.set_cons_succ]
                      refine wpAnyH_take (i := 24) (by simp only [List.getElem?_toArray, List.getElem?_cons_succ, List.getElem?_cons_zero]; first | done | rfl) (by kernel_rfl) (by kernel_rfl) (by kernel_rfl) (fun _ _ _ h => h) (yields_ent (by rfl) _ rfl g28 X.nm X.ver X.key rfl (fun w hw => hw.2.1)) (by assumption) ?_
                      try simp only [Act.put, List.setIfInBounds_toArray, List.set_cons_zero, List.set_cons_succ]
                      refine wpAnyH_take (i := 27) (by simp only [List.getElem?_toArray, List.getElem?_cons_succ, List.getElem?_cons_zero]; first | done | rfl) (by kernel_rfl) (by kernel_rfl) (by kernel_rfl) (fun _ _ _ h => h) (yields_ent (by rfl) _ rfl g28 X.nm X.ver X.key rfl (fun w hw => hw.2.1)) (by assumption) ?_
                      try simp only [Act.put, List.setIfInBounds_toArray, List.set_cons_zero, List.set_cons_succ]
                      refine wpAnyH_ready (rs := [25]) (by kernel_rfl) (by simp) ?_
                      refine AllReadyH.cons (by simp only [List.getElem?_toArray, List.getElem?_cons_succ, List.getElem?_cons_zero]; first | done | rfl) (fun K hK => ?_) ?_
                      · skip
                        refine step_call (by rfl) (msgE_any X.nm X.ver X.key _ OKX.out.nm OKX.out.key) (by go_simp) ?_
                        rintro e v2 ⟨u2, rfl, hu2, hb2⟩
                        refine ⟨_, rfl, ?_⟩
                        obtain ⟨b2, c2, rfl⟩ := hu2.rd.shape
                        have HX' := Lib.hid (UA.below (by repeat (first | exact HX.out | apply UA.drew | apply UA.drewN | apply UA.alloc)) hb2)
                        have HE' := Lib.hid (EA.below (by repeat (first | exact HE.out | apply EA.drew | apply EA.drewN | apply EA.alloc)) hb2)
                        have HL4' := Lib.hid (L4.below (by repeat (first | exact HL4.out | apply L4.drew | apply L4.drewN | apply L4.alloc)) hb2)
                        have HB' := Lib.hid (bl_bl (by repeat (first | exact HB.out | apply bl_drew | apply bl_drewN | apply bl_alloc)) hb2)
                        have HP' := Lib.hid (Rd.below (by repeat (first | exact HP.out | apply rd_drew | apply rd_drewN | apply rd_alloc)) hb2)
                        have HQ' := Lib.hid (Rd.below (by repeat (first | exact HQ.out | apply rd_drew | apply rd_drewN | apply rd_alloc)) hb2)
                        clear hb2
                        have HX := HX'
                        have HE := HE'
                        have HL4 := HL4'
                        have HB := HB'
                        have HP := HP'
                        have HQ := HQ'
                        clear HX' HE' HL4' HB' HP' HQ'
                        have HM1 := Lib.hid hu2.rd
                        clear hu2
                        refine hK.out _ _ ?_ (fun hHeld => ?_)
                        · (try dsimp only); (refine ⟨?_, ?_, ?_, ?_⟩ <;> repeat (first | exact HX.out | exact HE.out | exact HP.out | exact HQ.out | apply UA.drew | apply UA.drewN | apply UA.alloc | apply EA.drew | apply EA.drewN | apply EA.alloc | apply rd_drew | apply rd_drewN | apply rd_alloc))
                        clear hK K
                        try simp only [Act.put, List.setIfInBounds_toArray, List.set_cons_zero, List.set_cons_succ]
                        refine wpAnyH_ready (rs := [26, 28]) (by kernel_rfl) (by simp) ?_
                        refine AllReadyH.cons (by simp only [List.getElem?_toArray, List.getElem?_cons_succ, List.getElem?_cons_zero]; first | done | rfl) (fun K hK => ?_) ?_
                        · skip
                          refine step_conv_bs (by rfl) (.tmp 107) rfl rfl (by repeat (first | exact HM1.out | apply rd_drew | apply rd_drewN | apply rd_alloc)) ?_
                          refine hK.out _ _ ?_ (fun hHeld => ?_)
                          · (try dsimp only); (refine ⟨?_, ?_, ?_, ?_⟩ <;> repeat (first | exact HX.out | exact HE.out | exact HP.out | exact HQ.out | apply UA.drew | apply UA.drewN | apply UA.alloc | apply EA.drew | apply EA.drewN | apply EA.alloc | apply rd_drew | apply rd_drewN | apply rd_alloc))
                          clear hK K
                          try simp only [Act.put, List.setIfInBounds_toArray, List.set_cons_zero, List.set_cons_succ]
                          refine wpAnyH_ready (rs := [28]) (by kernel_rfl) (by simp) ?_
                          refine AllReadyH.cons (by simp only [List.getElem?_toArray, List.getElem?_cons_succ, List.getElem?_cons_zero]; first | done | rfl) (fun K hK => ?_) ?_
                          · skip
                            refine step_call (by rfl) (rmsgE_any X.nm X.ver X.key _ OKX.out.nm OKX.out.key) (by go_simp) ?_
                            rintro e v2 ⟨u2, rfl, hu2, hb2⟩
                            refine ⟨_, rfl, ?_⟩
                            obtain ⟨b2, c2, rfl⟩ := hu2.rd.shape
                            have HX' := Lib.hid (UA.below (by repeat (first | exact HX.out | apply UA.drew | apply UA.drewN | apply UA.alloc)) hb2)
                            have HE' := Lib.hid (EA.below (by repeat (first | exact HE.out | apply EA.drew | apply EA.drewN | apply EA.alloc)) hb2)
                            have HL4' := Lib.hid (L4.below (by repeat (first | exact HL4.out | apply L4.drew | apply L4.drewN | apply L4.alloc)) hb2)
                            have HB' := Lib.hid (bl_bl (by repeat (first | exact HB.out | apply bl_drew | apply bl_drewN | apply bl_alloc)) hb2)
                            have HP' := Lib.hid (Rd.below (by repeat (first | exact HP.out | apply rd_drew | apply rd_drewN | apply rd_alloc)) hb2)
                            have HQ' := Lib.hid (Rd.below (by repeat (first | exact HQ.out | apply rd_drew | apply rd_drewN | apply rd_alloc)) hb2)
                            clear hb2
                            have HX := HX'
                            have HE := HE'
                            have HL4 := HL4'
                            have HB := HB'
                            have HP := HP'
                            have HQ := HQ'
                            clear HX' HE' HL4' HB' HP' HQ'
                            have HM2 := Lib.hid hu2.rd
                            clear hu2
                            refine hK.out _ _ ?_ (fun hHeld => ?_)
                            · (try dsimp only); (refine ⟨?_, ?_, ?_, ?_⟩ <;> repeat (first | exact HX.out | exact HE.out | exact HP.out | exact HQ.out | apply UA.drew | apply UA.drewN | apply UA.alloc | apply EA.drew | apply EA.drewN | apply EA.alloc | apply rd_drew | apply rd_drewN | apply rd_alloc))
                            clear hK K
                            try simp only [Act.put, List.setIfInBounds_toArray, List.set_cons_zero, List.set_cons_succ]
                            refine wpAnyH_ready (rs := [29]) (by kernel_rfl) (by simp) ?_
                            refine AllReadyH.cons (by simp only [List.getElem?_toArray, List.getElem?_cons_succ, List.getElem?_cons_zero]; first | done | rfl) (fun K hK => ?_) ?_
                            · skip
                              refine step_conv_bs (by rfl) (.tmp 110) rfl rfl (by repeat (first | exact HM2.out | apply rd_drew | apply rd_drewN | apply rd_alloc)) ?_
                              refine hK.out _ _ ?_ (fun hHeld => ?_)
                              · (try dsimp only); (refine ⟨?_, ?_, ?_, ?_⟩ <;> repeat (first | exact HX.out | exact HE.out | exact HP.out | exact HQ.out | apply UA.drew | apply UA.drewN | apply UA.alloc | apply EA.drew | apply EA.drewN | apply EA.alloc | apply rd_drew | apply rd_drewN | apply rd_alloc))
                              clear hK K
                              try simp only [Act.put, List.setIfInBounds_toArray, List.set_cons_zero, List.set_cons_succ]
                              refine wpAnyH_take (i := 30) (v := ?_) (by simp only [List.getElem?_toArray, List.getElem?_cons_succ, List.getElem?_cons_zero]; first | done | rfl) (by kernel_rfl) (by kernel_rfl) (by kernel_rfl) (fun _ _ _ h => h) (Or.inl ⟨by rfl, ?hy⟩) (by assumption) ?_
                              case hy => (intro w hSw; (try dsimp only at hSw); go_simp; all_goals with_reducible rfl)
                              try simp only [Act.put, List.setIfInBounds_toArray, List.set_cons_zero, List.set_cons_succ]
                              refine wpAnyH_take (i := 31) (v := ?_) (by simp only [List.getElem?_toArray, List.getElem?_cons_succ, List.getElem?_cons_zero]; first | done | rfl) (by kernel_rfl) (by kernel_rfl) (by kernel_rfl) (fun _ _ _ h => h) (Or.inl ⟨by rfl, ?hy⟩) (by assumption) ?_
                              case hy => (intro w hSw; (try dsimp only at hSw); go_simp; all_goals with_reducible rfl)
                              try simp only [Act.put, List.setIfInBounds_toArray, List.set_cons_zero, List.set_cons_succ]
                              refine wpAnyH_take (i := 32) (v := ?_) (by simp only [List.getElem?_toArray, List.getElem?_cons_succ, List.getElem?_cons_zero]; first | done | rfl) (by kernel_rfl) (by kernel_rfl) (by kernel_rfl) (fun _ _ _ h => h) (Or.inl ⟨by rfl, ?hy⟩) (by assumption) ?_
                              case hy => (intro w hSw; (try dsimp only at hSw); go_simp; all_goals with_reducible rfl)
                              try simp only [Act.put, List.setIfInBounds_toArray, List.set_cons_zero, List.set_cons_succ]
                              refine wpAnyH_take (i := 33) (v := ?_) (by simp only [List.getElem?_toArray, List.getElem?_cons_succ, List.getElem?_cons_zero]; first | done | rfl) (by kernel_rfl) (by kernel_rfl) (by kernel_rfl) (fun _ _ _ h => h) (Or.inl ⟨by rfl, ?hy⟩) (by assumption) ?_
                              case hy => (intro w hSw; (try dsimp only at hSw); go_simp; all_goals with_reducible rfl)
                              try simp only [Act.put, List.setIfInBounds_toArray, List.set_cons_zero, List.set_cons_succ]
                              refine wpAnyH_take (i := 34) (by simp only [List.getElem?_toArray, List.getElem?_cons_succ, List.getElem?_cons_zero]; first | done | rfl) (by kernel_rfl) (by kernel_rfl) (by kernel_rfl) (fun _ _ _ h => h) (yields_up (by rfl) _ rfl g23 X rfl (fun w hw => hw.1)) (by assumption) ?_
                              try simp only [Act.put, List.setIfInBounds_toArray, List.set_cons_zero, List.set_cons_succ]
                              refine wpAnyH_take (i := 36) (v := ?_) (by simp only [List.getElem?_toArray, List.getElem?_cons_succ, List.getElem?_cons_zero]; first | done | rfl) (by kernel_rfl) (by kernel_rfl) (by kernel_rfl) (fun _ _ _ h => h) (Or.inl ⟨by rfl, ?hy⟩) (by assumption) ?_
                              case hy => (intro w hSw; (try dsimp only at hSw); go_simp; all_goals with_reducible rfl)
                              try simp only [Act.put, List.setIfInBounds_toArray, List.set_cons_zero, List.set_cons_succ]
                              refine wpAnyH_take (i := 37) (by simp only [List.getElem?_toArray, List.getElem?_cons_succ, List.getElem?_cons_zero]; first | done | rfl) (by kernel_rfl) (by kernel_rfl) (by kernel_rfl) (fun _ _ _ h => h) (yields_up (by rfl) _ rfl g23 X rfl (fun w hw => hw.1)) (by assumption) ?_
                              try simp only [Act.put, List.setIfInBounds_toArray, List.set_cons_zero, List.set_cons_succ]
                              refine wpAnyH_ready (rs := [35]) (by kernel_rfl) (by simp) ?_
                              refine AllReadyH.cons (by simp only [List.getElem?_toArray, List.getElem?_cons_succ, List.getElem?_cons_zero]; first | done | rfl) (fun K hK => ?_) ?_
                              · skip
                                refine step_call (by rfl) (signU_any secret X _ se0 (by omega) OKX.out) (by go_simp) ?_
                                rintro e v2 ⟨rfl, hb2⟩
                                refine ⟨_, rfl, ?_⟩
                                have HX' := Lib.hid (UA.below (by repeat (first | exact HX.out | apply UA.drew | apply UA.drewN | apply UA.alloc)) hb2)
                                have HE' := Lib.hid (EA.below (by repeat (first | exact HE.out | apply EA.drew | apply EA.drewN | apply EA.alloc)) hb2)
                                have HL4' := Lib.hid (L4.below (by repeat (first | exact HL4.out | apply L4.drew | apply L4.drewN | apply L4.alloc)) hb2)
                                have HB' := Lib.hid (bl_bl (by repeat (first | exact HB.out | apply bl_drew | apply bl_drewN | apply bl_alloc)) hb2)
                                have HP' := Lib.hid (Rd.below (by repeat (first | exact HP.out | apply rd_drew | apply rd_drewN | apply rd_alloc)) hb2)
                                have HQ' := Lib.hid (Rd.below (by repeat (first | exact HQ.out | apply rd_drew | apply rd_drewN | apply rd_alloc)) hb2)
                                clear hb2
                                have HX := HX'
                                have HE := HE'
                                have HL4 := HL4'
                                have HB := HB'
                                have HP := HP'
                                have HQ := HQ'
                                clear HX' HE' HL4' HB' HP' HQ'
                                refine hK.out _ _ ?_ (fun hHeld => ?_)
                                · (try dsimp only); (refine ⟨?_, ?_, ?_, ?_⟩ <;> repeat (first | exact HX.out | exact HE.out | exact HP.out | exact HQ.out | apply UA.drew | apply UA.drewN | apply UA.alloc | apply EA.drew | apply EA.drewN | apply EA.alloc | apply rd_drew | apply rd_drewN | apply rd_alloc))
                                clear hK K
                                try simp only [Act.put, List.setIfInBounds_toArray, List.set_cons_zero, List.set_cons_succ]
                                refine wpAnyH_ready (rs := [38]) (by kernel_rfl) (by simp) ?_
                                refine AllReadyH.cons (by simp only [List.getElem?_toArray, List.getElem?_cons_succ, List.getElem?_cons_zero]; first | done | rfl) (fun K hK => ?_) ?_
                                · skip
                                  refine step_call (by rfl) (rsignU_any secret X _ se0 (by omega) OKX.out) (by go_simp) ?_
                                  rintro e v2 ⟨rfl, hb2⟩
                                  refine ⟨_, rfl, ?_⟩
                                  have HX' := Lib.hid (UA.below (by repeat (first | exact HX.out | apply UA.drew | apply UA.drewN | apply UA.alloc)) hb2)
                                  have HE' := Lib.hid (EA.below (by repeat (first | exact HE.out | apply EA.drew | apply EA.drewN | apply EA.alloc)) hb2)
                                  have HL4' := Lib.hid (L4.below (by repeat (first | exact HL4.out | apply L4.drew | apply L4.drewN | apply L4.alloc)) hb2)
                                  have HB' := Lib.hid (bl_bl (by repeat (first | exact HB.out | apply bl_drew | apply bl_drewN | apply bl_alloc)) hb2)
                                  have HP' := Lib.hid (Rd.below (by repeat (first | exact HP.out | apply rd_drew | apply rd_drewN | apply rd_alloc)) hb2)
                                  have HQ' := Lib.hid (Rd.below (by repeat (first | exact HQ.out | apply rd_drew | apply rd_drewN | apply rd_alloc)) hb2)
                                  clear hb2
                                  have HX := HX'
                                  have HE := HE'
                                  have HL4 := HL4'
                                  have HB := HB'
                                  have HP := HP'
                                  have HQ := HQ'
                                  clear HX' HE' HL4' HB' HP' HQ'
                                  refine hK.out _ _ ?_ (fun hHeld => ?_)
                                  · (try dsimp only); (refine ⟨?_, ?_, ?_, ?_⟩ <;> repeat (first | exact HX.out | exact HE.out | exact HP.out | exact HQ.out | apply UA.drew | apply UA.drewN | apply UA.alloc | apply EA.drew | apply EA.drewN | apply EA.alloc | apply rd_drew | apply rd_drewN | apply rd_alloc))
                                  clear hK K
                                  try simp only [Act.put, List.setIfInBounds_toArray, List.set_cons_zero, List.set_cons_succ]
                                  refine wpAnyH_take (i := 39) (by simp only [List.getElem?_toArray, List.getElem?_cons_succ, List.getElem?_cons_zero]; first | done | rfl) (by kernel_rfl) (by kernel_rfl) (by kernel_rfl) (fun _ _ _ h => h) (yields_neq_up (by rfl) _ _ _ rfl (signU secret X) rfl rfl OKS.out) (by assumption) ?_
                                  try simp only [Act.put, List.setIfInBounds_toArray, List.set_cons_zero, List.set_cons_succ]
                                  refine wpAnyH_take (i := 40) (v := ?_) (by simp only [List.getElem?_toArray, List.getElem?_cons_succ, List.getElem?_cons_zero]; first | done | rfl) (by kernel_rfl) (by kernel_rfl) (by kernel_rfl) (fun _ _ _ h => h) (Or.inl ⟨by rfl, ?hy⟩) (by assumption) ?_
                                  case hy => (intro w hSw; (try dsimp only at hSw); go_simp; all_goals with_reducible rfl)
                                  try simp only [Act.put, List.setIfInBounds_toArray, List.set_cons_zero, List.set_cons_succ]
                                  refine wpAnyH_done (by kernel_rfl) ?_ _
                                  refine NoPanic.normal ?_
                                  go_wp2_with fail
                                  go_meet
                                  exact ⟨rfl, HX.out, HL4.out, HQ.out, HB.out⟩
                                exact AllReadyH.nil
                              exact AllReadyH.nil
                            exact AllReadyH.nil
                          exact AllReadyH.nil
                        refine AllReadyH.cons (by simp only [List.getElem?_toArray, List.getElem?_cons_succ, List.getElem?_cons_zero]; first | done | rfl) (fun K hK => ?_) ?_
                        · skip
                          refine step_call (by rfl) (rmsgE_any X.nm X.ver X.key _ OKX.out.nm OKX.out.key) (by go_simp) ?_
                          rintro e v2 ⟨u2, rfl, hu2, hb2⟩
                          refine ⟨_, rfl, ?_⟩
                          obtain ⟨b2, c2, rfl⟩ := hu2.rd.shape
                          have HX' := Lib.hid (UA.below (by repeat (first | exact HX.out | apply UA.drew | apply UA.drewN | apply UA.alloc)) hb2)
                          have HE' := Lib.hid (EA.below (by repeat (first | exact HE.out | apply EA.drew | apply EA.drewN | apply EA.alloc)) hb2)
                          have HL4' := Lib.hid (L4.below (by repeat (first | exact HL4.out | apply L4.drew | apply L4.drewN | apply L4.alloc)) hb2)
                          have HB' := Lib.hid (bl_bl (by repeat (first | exact HB.out | apply bl_drew | apply bl_drewN | apply bl_alloc)) hb2)
                          have HP' := Lib.hid (Rd.below (by repeat (first | exact HP.out | apply rd_drew | apply rd_drewN | apply rd_alloc)) hb2)
                          have HQ' := Lib.hid (Rd.below (by repeat (first | exact HQ.out | apply rd_drew | apply rd_drewN | apply rd_alloc)) hb2)
                          have HM1' := Lib.hid (Rd.below (by repeat (first | exact HM1.out | apply rd_drew | apply rd_drewN | apply rd_alloc)) hb2)
                          clear hb2
                          have HX := HX'
                          have HE := HE'
                          have HL4 := HL4'
                          have HB := HB'
                          have HP := HP'
                          have HQ := HQ'
                          have HM1 := HM1'
                          clear HX' HE' HL4' HB' HP' HQ' HM1'
                          have HM2 := Lib.hid hu2.rd
                          clear hu2
                          refine hK.out _ _ ?_ (fun hHeld => ?_)
                          · (try dsimp only); (refine ⟨?_, ?_, ?_, ?_⟩ <;> repeat (first | exact HX.out | exact HE.out | exact HP.out | exact HQ.out | apply UA.drew | apply UA.drewN | apply UA.alloc | apply EA.drew | apply EA.drewN | apply EA.alloc | apply rd_drew | apply rd_drewN | apply rd_alloc))
                          clear hK K
                          try simp only [Act.put, List.setIfInBounds_toArray, List.set_cons_zero, List.set_cons_succ]
                          refine wpAnyH_ready (rs := [26, 29]) (by kernel_rfl) (by simp) ?_
                          refine AllReadyH.cons (by simp only [List.getElem?_toArray, List.getElem?_cons_succ, List.getElem?_cons_zero]; first | done | rfl) (fun K hK => ?_) ?_
                          · skip
                            refine step_conv_bs (by rfl) (.tmp 107) rfl rfl (by repeat (first | exact HM1.out | apply rd_drew | apply rd_drewN | apply rd_alloc)) ?_
                            refine hK.out _ _ ?_ (fun hHeld => ?_)
                            · (try dsimp only); (refine ⟨?_, ?_, ?_, ?_⟩ <;> repeat (first | exact HX.out | exact HE.out | exact HP.out | exact HQ.out | apply UA.drew | apply UA.drewN | apply UA.alloc | apply EA.drew | apply EA.drewN | apply EA.alloc | apply rd_drew | apply rd_drewN | apply rd_alloc))
                            clear hK K
                            try simp only [Act.put, List.setIfInBounds_toArray, List.set_cons_zero, List.set_cons_succ]
                            refine wpAnyH_ready (rs := [29]) (by kernel_rfl) (by simp) ?_
                            refine AllReadyH.cons (by simp only [List.getElem?_toArray, List.getElem?_cons_succ, List.getElem?_cons_zero]; first | done | rfl) (fun K hK => ?_) ?_
                            · skip
                              refine step_conv_bs (by rfl) (.tmp 110) rfl rfl (by repeat (first | exact HM2.out | apply rd_drew | apply rd_drewN | apply rd_alloc)) ?_
                              refine hK.out _ _ ?_ (fun hHeld => ?_)
                              · (try dsimp only); (refine ⟨?_, ?_, ?_, ?_⟩ <;> repeat (first | exact HX.out | exact HE.out | exact HP.out | exact HQ.out | apply UA.drew | apply UA.drewN | apply UA.alloc | apply EA.drew | apply EA.drewN | apply EA.alloc | apply rd_drew | apply rd_drewN | apply rd_alloc))
                              clear hK K
                              try simp only [Act.put, List.setIfInBounds_toArray, List.set_cons_zero, List.set_cons_succ]
                              refine wpAnyH_take (i := 30) (v := ?_) (by simp only [List.getElem?_toArray, List.getElem?_cons_succ, List.getElem?_cons_zero]; first | done | rfl) (by kernel_rfl) (by kernel_rfl) (by kernel_rfl) (fun _ _ _ h => h) (Or.inl ⟨by rfl, ?hy⟩) (by assumption) ?_
                              case hy => (intro w hSw; (try dsimp only at hSw); go_simp; all_goals with_reducible rfl)
                              try simp only [Act.put, List.setIfInBounds_toArray, List.set_cons_zero, List.set_cons_succ]
                              refine wpAnyH_take (i := 31) (v := ?_) (by simp only [List.getElem?_toArray, List.getElem?_cons_succ, List.getElem?_cons_zero]; first | done | rfl) (by kernel_rfl) (by kernel_rfl) (by kernel_rfl) (fun _ _ _ h => h) (Or.inl ⟨by rfl, ?hy⟩) (by assumption) ?_
                              case hy => (intro w hSw; (try dsimp only at hSw); go_simp; all_goals with_reducible rfl)
                              try simp only [Act.put, List.setIfInBounds_toArray, List.set_cons_zero, List.set_cons_succ]
                              refine wpAnyH_take (i := 32) (v := ?_) (by simp only [List.getElem?_toArray, List.getElem?_cons_succ, List.getElem?_cons_zero]; first | done | rfl) (by kernel_rfl) (by kernel_rfl) (by kernel_rfl) (fun _ _ _ h => h) (Or.inl ⟨by rfl, ?hy⟩) (by assumption) ?_
                              case hy => (intro w hSw; (try dsimp only at hSw); go_simp; all_goals with_reducible rfl)
                              try simp only [Act.put, List.setIfInBounds_toArray, List.set_cons_zero, List.set_cons_succ]
                              refine wpAnyH_take (i := 33) (v := ?_) (by simp only [List.getElem?_toArray, List.getElem?_cons_succ, List.getElem?_cons_zero]; first | done | rfl) (by kernel_rfl) (by kernel_rfl) (by kernel_rfl) (fun _ _ _ h => h) (Or.inl ⟨by rfl, ?hy⟩) (by assumption) ?_
                              case hy => (intro w hSw; (try dsimp only at hSw); go_simp; all_goals with_reducible rfl)
                              try simp only [Act.put, List.setIfInBounds_toArray, List.set_cons_zero, List.set_cons_succ]
                              refine wpAnyH_take (i := 34) (by simp only [List.getElem?_toArray, List.getElem?_cons_succ, List.getElem?_cons_zero]; first | done | rfl) (by kernel_rfl) (by kernel_rfl) (by kernel_rfl) (fun _ _ _ h => h) (yields_up (by rfl) _ rfl g23 X rfl (fun w hw => hw.1)) (by assumption) ?_
                              try simp only [Act.put, List.setIfInBounds_toArray, List.set_cons_zero, List.set_cons_succ]
                              refine wpAnyH_take (i := 36) (v := ?_) (by simp only [List.getElem?_toArray, List.getElem?_cons_succ, List.getElem?_cons_zero]; first | done | rfl) (by kernel_rfl) (by kernel_rfl) (by kernel_rfl) (fun _ _ _ h => h) (Or.inl ⟨by rfl, ?hy⟩) (by assumption) ?_
                              case hy => (intro w hSw; (try dsimp only at hSw); go_simp; all_goals with_reducible rfl)
                              try simp only [Act.put, List.setIfInBounds_toArray, List.set_cons_zero, List.set_cons_succ]
                              refine wpAnyH_take (i := 37) (by simp only [List.getElem?_toArray, List.getElem?_cons_succ, List.getElem?_cons_zero]; first | done | rfl) (by kernel_rfl) (by kernel_rfl) (by kernel_rfl) (fun _ _ _ h => h) (yields_up (by rfl) _ rfl g23 X rfl (fun w hw => hw.1)) (by assumption) ?_
                              try simp only [Act.put, List.setIfInBounds_toArray, List.set_cons_zero, List.set_cons_succ]
                              refine wpAnyH_ready (rs := [35]) (by kernel_rfl) (by simp) ?_
                              refine AllReadyH.cons (by simp only [List.getElem?_toArray, List.getElem?_cons_succ, List.getElem?_cons_zero]; first | done | rfl) (fun K hK => ?_) ?_
                              · skip
                                refine step_call (by rfl) (signU_any secret X _ se0 (by omega) OKX.out) (by go_simp) ?_
                                rintro e v2 ⟨rfl, hb2⟩
                                refine ⟨_, rfl, ?_⟩
                                have HX' := Lib.hid (UA.below (by repeat (first | exact HX.out | apply UA.drew | apply UA.drewN | apply UA.alloc)) hb2)
                                have HE' := Lib.hid (EA.below (by repeat (first | exact HE.out | apply EA.drew | apply EA.drewN | apply EA.alloc)) hb2)
                                have HL4' := Lib.hid (L4.below (by repeat (first | exact HL4.out | apply L4.drew | apply L4.drewN | apply L4.alloc)) hb2)
                                have HB' := Lib.hid (bl_bl (by repeat (first | exact HB.out | apply bl_drew | apply bl_drewN | apply bl_alloc)) hb2)
                                have HP' := Lib.hid (Rd.below (by repeat (first | exact HP.out | apply rd_drew | apply rd_drewN | apply rd_alloc)) hb2)
                                have HQ' := Lib.hid (Rd.below (by repeat (first | exact HQ.out | apply rd_drew | apply rd_drewN | apply rd_alloc)) hb2)
                                clear hb2
                                have HX := HX'
                                have HE := HE'
                                have HL4 := HL4'
                                have HB := HB'
                                have HP := HP'
                                have HQ := HQ'
                                clear HX' HE' HL4' HB' HP' HQ'
                                refine hK.out _ _ ?_ (fun hHeld => ?_)
                                · (try dsimp only); (refine ⟨?_, ?_, ?_, ?_⟩ <;> repeat (first | exact HX.out | exact HE.out | exact HP.out | exact HQ.out | apply UA.drew | apply UA.drewN | apply UA.alloc | apply EA.drew | apply EA.drewN | apply EA.alloc | apply rd_drew | apply rd_drewN | apply rd_alloc))
                                clear hK K
                                try simp only [Act.put, List.setIfInBounds_toArray, List.set_cons_zero, List.set_cons_succ]
                                refine wpAnyH_ready (rs := [38]) (by kernel_rfl) (by simp) ?_
                                refine AllReadyH.cons (by simp only [List.getElem?_toArray, List.getElem?_cons_succ, List.getElem?_cons_zero]; first | done | rfl) (fun K hK => ?_) ?_
                                · skip
                                  refine step_call (by rfl) (rsignU_any secret X _ se0 (by omega) OKX.out) (by go_simp) ?_
                                  rintro e v2 ⟨rfl, hb2⟩
                                  refine ⟨_, rfl, ?_⟩
                                  have HX' := Lib.hid (UA.below (by repeat (first | exact HX.out | apply UA.drew | apply UA.drewN | apply UA.alloc)) hb2)
                                  have HE' := Lib.hid (EA.below (by repeat (first | exact HE.out | apply EA.drew | apply EA.drewN | apply EA.alloc)) hb2)
                                  have HL4' := Lib.hid (L4.below (by repeat (first | exact HL4.out | apply L4.drew | apply L4.drewN | apply L4.alloc)) hb2)
                                  have HB' := Lib.hid (bl_bl (by repeat (first | exact HB.out | apply bl_drew | apply bl_drewN | apply bl_alloc)) hb2)
                                  have HP' := Lib.hid (Rd.below (by repeat (first | exact HP.out | apply rd_drew | apply rd_drewN | apply rd_alloc)) hb2)
                                  have HQ' := Lib.hid (Rd.below (by repeat (first | exact HQ.out | apply rd_drew | apply rd_drewN | apply rd_alloc)) hb2)
                                  clear hb2
                                  have HX := HX'
                                  have HE := HE'
                                  have HL4 := HL4'
                                  have HB := HB'
                                  have HP := HP'
                                  have HQ := HQ'
                                  clear HX' HE' HL4' HB' HP' HQ'
                                  refine hK.out _ _ ?_ (fun hHeld => ?_)
                                  · (try dsimp only); (refine ⟨?_, ?_, ?_, ?_⟩ <;> repeat (first | exact HX.out | exact HE.out | exact HP.out | exact HQ.out | apply UA.drew | apply UA.drewN | apply UA.alloc | apply EA.drew | apply EA.drewN | apply EA.alloc | apply rd_drew | apply rd_drewN | apply rd_alloc))
                                  clear hK K
                                  try simp only [Act.put, List.setIfInBounds_toArray, List.set_cons_zero, List.set_cons_succ]
                                  refine wpAnyH_take (i := 39) (by simp only [List.getElem?_toArray, List.getElem?_cons_succ, List.getElem?_cons_zero]; first | done | rfl) (by kernel_rfl) (by kernel_rfl) (by kernel_rfl) (fun _ _ _ h => h) (yields_neq_up (by rfl) _ _ _ rfl (signU secret X) rfl rfl OKS.out) (by assumption) ?_
                                  try simp only [Act.put, List.setIfInBounds_toArray, List.set_cons_zero, List.set_cons_succ]
                                  refine wpAnyH_take (i := 40) (v := ?_) (by simp only [List.getElem?_toArray, List.getElem?_cons_succ, List.getElem?_cons_zero]; first | done | rfl) (by kernel_rfl) (by kernel_rfl) (by kernel_rfl) (fun _ _ _ h => h) (Or.inl ⟨by rfl, ?hy⟩) (by assumption) ?_
                                  case hy => (intro w hSw; (try dsimp only at hSw); go_simp; all_goals with_reducible rfl)
                                  try simp only [Act.put, List.setIfInBounds_toArray, List.set_cons_zero, List.set_cons_succ]
                                  refine wpAnyH_done (by kernel_rfl) ?_ _
                                  refine NoPanic.normal ?_
                                  go_wp2_with fail
                                  go_meet
                                  exact ⟨rfl, HX.out, HL4.out, HQ.out, HB.out⟩
                                exact AllReadyH.nil
                              exact AllReadyH.nil
                            exact AllReadyH.nil
                          refine AllReadyH.cons (by simp only [List.getElem?_toArray, List.getElem?_cons_succ, List.getElem?_cons_zero]; first | done | rfl) (fun K hK => ?_) ?_
                          · skip
                            refine step_conv_bs (by rfl) (.tmp 110) rfl rfl (by repeat (first | exact HM2.out | apply rd_drew | apply rd_drewN | apply rd_alloc)) ?_
                            refine hK.out _ _ ?_ (fun hHeld => ?_)
                            · (try dsimp only); (refine ⟨?_, ?_, ?_, ?_⟩ <;> repeat (first | exact HX.out | exact HE.out | exact HP.out | exact HQ.out | apply UA.drew | apply UA.drewN | apply UA.alloc | apply EA.drew | apply EA.drewN | apply EA.alloc | apply rd_drew | apply rd_drewN | apply rd_alloc))
                            clear hK K
                            try simp only [Act.put, List.setIfInBounds_toArray, List.set_cons_zero, List.set_cons_succ]
                            refine wpAnyH_ready (rs := [26]) (by kernel_rfl) (by simp) ?_
                            refine AllReadyH.cons (by simp only [List.getElem?_toArray, List.getElem?_cons_succ, List.getElem?_cons_zero]; first | done | rfl) (fun K hK => ?_) ?_
                            · skip
                              refine step_conv_bs (by rfl) (.tmp 107) rfl rfl (by repeat (first | exact HM1.out | apply rd_drew | apply rd_drewN | apply rd_alloc)) ?_
                              refine hK.out _ _ ?_ (fun hHeld => ?_)
                              · (try dsimp only); (refine ⟨?_, ?_, ?_, ?_⟩ <;> repeat (first | exact HX.out | exact HE.out | exact HP.out | exact HQ.out | apply UA.drew | apply UA.drewN | apply UA.alloc | apply EA.drew | apply EA.drewN | apply EA.alloc | apply rd_drew | apply rd_drewN | apply rd_alloc))
                              clear hK K
                              try simp only [Act.put, List.setIfInBounds_toArray, List.set_cons_zero, List.set_cons_succ]
                              refine wpAnyH_take (i := 30) (v := ?_) (by simp only [List.getElem?_toArray, List.getElem?_cons_succ, List.getElem?_cons_zero]; first | done | rfl) (by kernel_rfl) (by kernel_rfl) (by kernel_rfl) (fun _ _ _ h => h) (Or.inl ⟨by rfl, ?hy⟩) (by assumption) ?_
                              case hy => (intro w hSw; (try dsimp only at hSw); go_simp; all_goals with_reducible rfl)
                              try simp only [Act.put, List.setIfInBounds_toArray, List.set_cons_zero, List.set_cons_succ]
                              refine wpAnyH_take (i := 31) (v := ?_) (by simp only [List.getElem?_toArray, List.getElem?_cons_succ, List.getElem?_cons_zero]; first | done | rfl) (by kernel_rfl) (by kernel_rfl) (by kernel_rfl) (fun _ _ _ h => h) (Or.inl ⟨by rfl, ?hy⟩) (by assumption) ?_
                              case hy => (intro w hSw; (try dsimp only at hSw); go_simp; all_goals with_reducible rfl)
                              try simp only [Act.put, List.setIfInBounds_toArray, List.set_cons_zero, List.set_cons_succ]
                              refine wpAnyH_take (i := 32) (v := ?_) (by simp only [List.getElem?_toArray, List.getElem?_cons_succ, List.getElem?_cons_zero]; first | done | rfl) (by kernel_rfl) (by kernel_rfl) (by kernel_rfl) (fun _ _ _ h => h) (Or.inl ⟨by rfl, ?hy⟩) (by assumption) ?_
                              case hy => (intro w hSw; (try dsimp only at hSw); go_simp; all_goals with_reducible rfl)
                              try simp only [Act.put, List.setIfInBounds_toArray, List.set_cons_zero, List.set_cons_succ]
                              refine wpAnyH_take (i := 33) (v := ?_) (by simp only [List.getElem?_toArray, List.getElem?_cons_succ, List.getElem?_cons_zero]; first | done | rfl) (by kernel_rfl) (by kernel_rfl) (by kernel_rfl) (fun _ _ _ h => h) (Or.inl ⟨by rfl, ?hy⟩) (by assumption) ?_
                              case hy => (intro w hSw; (try dsimp only at hSw); go_simp; all_goals with_reducible rfl)
                              try simp only [Act.put, List.setIfInBounds_toArray, List.set_cons_zero, List.set_cons_succ]
                              refine wpAnyH_take (i := 34) (by simp only [List.getElem?_toArray, List.getElem?_cons_succ, List.getElem?_cons_zero]; first | done | rfl) (by kernel_rfl) (by kernel_rfl) (by kernel_rfl) (fun _ _ _ h => h) (yields_up (by rfl) _ rfl g23 X rfl (fun w hw => hw.1)) (by assumption) ?_
                              try simp only [Act.put, List.setIfInBounds_toArray, List.set_cons_zero, List.set_cons_succ]
                              refine wpAnyH_take (i := 36) (v := ?_) (by simp only [List.getElem?_toArray, List.getElem?_cons_succ, List.getElem?_cons_zero]; first | done | rfl) (by kernel_rfl) (by kernel_rfl) (by kernel_rfl) (fun _ _ _ h => h) (Or.inl ⟨by rfl, ?hy⟩) (by assumption) ?_
                              case hy => (intro w hSw; (try dsimp only at hSw); go_simp; all_goals with_reducible rfl)
                              try simp only [Act.put, List.setIfInBounds_toArray, List.set_cons_zero, List.set_cons_succ]
                              refine wpAnyH_take (i := 37) (by simp only [List.getElem?_toArray, List.getElem?_cons_succ, List.getElem?_cons_zero]; first | done | rfl) (by kernel_rfl) (by kernel_rfl) (by kernel_rfl) (fun _ _ _ h => h) (yields_up (by rfl) _ rfl g23 X rfl (fun w hw => hw.1)) (by assumption) ?_
                              try simp only [Act.put, List.setIfInBounds_toArray, List.set_cons_zero, List.set_cons_succ]
                              refine wpAnyH_ready (rs := [35]) (by kernel_rfl) (by simp) ?_
                              refine AllReadyH.cons (by simp only [List.getElem?_toArray, List.getElem?_cons_succ, List.getElem?_cons_zero]; first | done | rfl) (fun K hK => ?_) ?_
                              · skip
                                refine step_call (by rfl) (signU_any secret X _ se0 (by omega) OKX.out) (by go_simp) ?_
                                rintro e v2 ⟨rfl, hb2⟩
                                refine ⟨_, rfl, ?_⟩
                                have HX' := Lib.hid (UA.below (by repeat (first | exact HX.out | apply UA.drew | apply UA.drewN | apply UA.alloc)) hb2)
                                have HE' := Lib.hid (EA.below (by repeat (first | exact HE.out | apply EA.drew | apply EA.drewN | apply EA.alloc)) hb2)
                                have HL4' := Lib.hid (L4.below (by repeat (first | exact HL4.out | apply L4.drew | apply L4.drewN | apply L4.alloc)) hb2)
                                have HB' := Lib.hid (bl_bl (by repeat (first | exact HB.out | apply bl_drew | apply bl_drewN | apply bl_alloc)) hb2)
                                have HP' := Lib.hid (Rd.below (by repeat (first | exact HP.out | apply rd_drew | apply rd_drewN | apply rd_alloc)) hb2)
                                have HQ' := Lib.hid (Rd.below (by repeat (first | exact HQ.out | apply rd_drew | apply rd_drewN | apply rd_alloc)) hb2)
                                clear hb2
                                have HX := HX'
                                have HE := HE'
                                have HL4 := HL4'
                                have HB := HB'
                                have HP := HP'
                                have HQ := HQ'
                                clear HX' HE' HL4' HB' HP' HQ'
                                refine hK.out _ _ ?_ (fun hHeld => ?_)
                                · (try dsimp only); (refine ⟨?_, ?_, ?_, ?_⟩ <;> repeat (first | exact HX.out | exact HE.out | exact HP.out | exact HQ.out | apply UA.drew | apply UA.drewN | apply UA.alloc | apply EA.drew | apply EA.drewN | apply EA.alloc | apply rd_drew | apply rd_drewN | apply rd_alloc))
                                clear hK K
                                try simp only [Act.put, List.setIfInBounds_toArray, List.set_cons_zero, List.set_cons_succ]
                                refine wpAnyH_ready (rs := [38]) (by kernel_rfl) (by simp) ?_
                                refine AllReadyH.cons (by simp only [List.getElem?_toArray, List.getElem?_cons_succ, List.getElem?_cons_zero]; first | done | rfl) (fun K hK => ?_) ?_
                                · skip
                                  refine step_call (by rfl) (rsignU_any secret X _ se0 (by omega) OKX.out) (by go_simp) ?_
                                  rintro e v2 ⟨rfl, hb2⟩
                                  refine ⟨_, rfl, ?_⟩
                                  have HX' := Lib.hid (UA.below (by repeat (first | exact HX.out | apply UA.drew | apply UA.drewN | apply UA.alloc)) hb2)
                                  have HE' := Lib.hid (EA.below (by repeat (first | exact HE.out | apply EA.drew | apply EA.drewN | apply EA.alloc)) hb2)
                                  have HL4' := Lib.hid (L4.below (by repeat (first | exact HL4.out | apply L4.drew | apply L4.drewN | apply L4.alloc)) hb2)
                                  have HB' := Lib.hid (bl_bl (by repeat (first | exact HB.out | apply bl_drew | apply bl_drewN | apply bl_alloc)) hb2)
                                  have HP' := Lib.hid (Rd.below (by repeat (first | exact HP.out | apply rd_drew | apply rd_drewN | apply rd_alloc)) hb2)
                                  have HQ' := Lib.hid (Rd.below (by repeat (first | exact HQ.out | apply rd_drew | apply rd_drewN | apply rd_alloc)) hb2)
                                  clear hb2
                                  have HX := HX'
                                  have HE := HE'
                                  have HL4 := HL4'
                                  have HB := HB'
                                  have HP := HP'
                                  have HQ := HQ'
                                  clear HX' HE' HL4' HB' HP' HQ'
                                  refine hK.out _ _ ?_ (fun hHeld => ?_)
                                  · (try dsimp only); (refine ⟨?_, ?_, ?_, ?_⟩ <;> repeat (first | exact HX.out | exact HE.out | exact HP.out | exact HQ.out | apply UA.drew | apply UA.drewN | apply UA.alloc | apply EA.drew | apply EA.drewN | apply EA.alloc | apply rd_drew | apply rd_drewN | apply rd_alloc))
                                  clear hK K
                                  try simp only [Act.put, List.setIfInBounds_toArray, List.set_cons_zero, List.set_cons_succ]
                                  refine wpAnyH_take (i := 39) (by simp only [List.getElem?_toArray, List.getElem?_cons_succ, List.getElem?_cons_zero]; first | done | rfl) (by kernel_rfl) (by kernel_rfl) (by kernel_rfl) (fun _ _ _ h => h) (yields_neq_up (by rfl) _ _ _ rfl (signU secret X) rfl rfl OKS.out) (by assumption) ?_
                                  try simp only [Act.put, List.setIfInBounds_toArray, List.set_cons_zero, List.set_cons_succ]
                                  refine wpAnyH_take (i := 40) (v := ?_) (by simp only [List.getElem?_toArray, List.getElem?_cons_succ, List.getElem?_cons_zero]; first | done | rfl) (by kernel_rfl) (by kernel_rfl) (by kernel_rfl) (fun _ _ _ h => h) (Or.inl ⟨by rfl, ?hy⟩) (by assumption) ?_
                                  case hy => (intro w hSw; (try dsimp only at hSw); go_simp; all_goals with_reducible rfl)
                                  try simp only [Act.put, List.setIfInBounds_toArray, List.set_cons_zero, List.set_cons_succ]
                                  refine wpAnyH_done (by kernel_rfl) ?_ _
                                  refine NoPanic.normal ?_
                                  go_wp2_with fail
                                  go_meet
                                  exact ⟨rfl, HX.out, HL4.out, HQ.out, HB.out⟩
                                exact AllReadyH.nil
                              exact AllReadyH.nil
                            exact AllReadyH.nil
                          exact AllReadyH.nil
                        exact AllReadyH.nil
                      exact AllReadyH.nil
                    exact AllReadyH.nil
                  exact AllReadyH.nil
                exact AllReadyH.nil
              case rest =>
                obtain ⟨rfl, h1, h2, h3, h4⟩ := hcut
                clear HX HL4 HQ HB HE HP
                have HX := Lib.hid h1
                have HL4 := Lib.hid h2
                have HQ := Lib.hid h3
                have HB := Lib.hid h4
                clear h1 h2 h3 h4
                go_upto_region 14 with fail
                obtain ⟨W, hW⟩ : ∃ W, W = wc := ⟨_, rfl⟩
                rw [← hW] at HX HL4 HQ HB ⊢
                clear hW
                refine wp_region_noPanic ?_
                refine wp_region_held_drew (S := (fun w' => UA g23 X w')) (by kernel_rfl) ?_ (fun hHeld => ?_)
                · (try dsimp only); (repeat (first | exact HX.out | apply UA.drew | apply UA.drewN | apply UA.alloc))
                refine wpAnyH_take (i := 0) (v := ?_) (by simp only [List.getElem?_toArray, List.getElem?_cons_succ, List.getElem?_cons_zero]; first | done | rfl) (by kernel_rfl) (by kernel_rfl) (by kernel_rfl) (fun _ _ _ h => h) (Or.inl ⟨by rfl, ?hy⟩) (by assumption) ?_
                case hy => (intro w hSw; (try dsimp only at hSw); have c2 := hSw.c2; go_simp; all_goals with_reducible rfl)
                try simp only [Act.put, List.setIfInBounds_toArray, List.set_cons_zero, List.set_cons_succ]
                refine wpAnyH_take (i := 1) (v := ?_) (by simp only [List.getElem?_toArray, List.getElem?_cons_succ, List.getElem?_cons_zero]; first | done | rfl) (by kernel_rfl) (by kernel_rfl) (by kernel_rfl) (fun _ _ _ h => h) (Or.inl ⟨by rfl, ?hy⟩) (by assumption) ?_
                case hy => (intro w hSw; (try dsimp only at hSw); have c2 := hSw.c2; go_simp; all_goals with_reducible rfl)
                try simp only [Act.put, List.setIfInBounds_toArray, List.set_cons_zero, List.set_cons_succ]
                refine wpAnyH_take (i := 3) (v := ?_) (by simp only [List.getElem?_toArray, List.getElem?_cons_succ, List.getElem?_cons_zero]; first | done | rfl) (by kernel_rfl) (by kernel_rfl) (by kernel_rfl) (fun _ _ _ h => h) (Or.inl ⟨by rfl, ?hy⟩) (by assumption) ?_
                case hy => (intro w hSw; (try dsimp only at hSw); have c2 := hSw.c2; go_simp; all_goals with_reducible rfl)
                try simp only [Act.put, List.setIfInBounds_toArray, List.set_cons_zero, List.set_cons_succ]
                refine wpAnyH_take (i := 4) (v := ?_) (by simp only [List.getElem?_toArray, List.getElem?_cons_succ, List.getElem?_cons_zero]; first | done | rfl) (by kernel_rfl) (by kernel_rfl) (by kernel_rfl) (fun _ _ _ h => h) (Or.inl ⟨by rfl, ?hy⟩) (by assumption) ?_
                case hy => (intro w hSw; (try dsimp only at hSw); have c2 := hSw.c2; go_simp; all_goals with_reducible rfl)
                try simp only [Act.put, List.setIfInBounds_toArray, List.set_cons_zero, List.set_cons_succ]
                refine wpAnyH_take (i := 6) (v := ?_) (by simp only [List.getElem?_toArray, List.getElem?_cons_succ, List.getElem?_cons_zero]; first | done | rfl) (by kernel_rfl) (by kernel_rfl) (by kernel_rfl) (fun _ _ _ h => h) (Or.inl ⟨by rfl, ?hy⟩) (by assumption) ?_
                case hy => (intro w hSw; (try dsimp only at hSw); have c2 := hSw.c2; go_simp; all_goals with_reducible rfl)
                try simp only [Act.put, List.setIfInBounds_toArray, List.set_cons_zero, List.set_cons_succ]
                refine wpAnyH_take (i := 7) (v := ?_) (by simp only [List.getElem?_toArray, List.getElem?_cons_succ, List.getElem?_cons_zero]; first | done | rfl) (by kernel_rfl) (by kernel_rfl) (by kernel_rfl) (fun _ _ _ h => h) (Or.inl ⟨by rfl, ?hy⟩) (by assumption) ?_
                case hy => (intro w hSw; (try dsimp only at hSw); have c2 := hSw.c2; go_simp; all_goals with_reducible rfl)
                try simp only [Act.put, List.setIfInBounds_toArray, List.set_cons_zero, List.set_cons_succ]
                refine wpAnyH_take (i := 10) (v := ?_) (by simp only [List.getElem?_toArray, List.getElem?_cons_succ, List.getElem?_cons_zero]; first | done | rfl) (by kernel_rfl) (by kernel_rfl) (by kernel_rfl) (fun _ _ _ h => h) (Or.inl ⟨by rfl, ?hy⟩) (by assumption) ?_
                case hy => (intro w hSw; (try dsimp only at hSw); have c2 := hSw.c2; go_simp; all_goals with_reducible rfl)
                try simp only [Act.put, List.setIfInBounds_toArray, List.set_cons_zero, List.set_cons_succ]
                refine wpAnyH_ready (rs := [2]) (by kernel_rfl) (by simp) ?_
                refine AllReadyH.cons (by simp only [List.getElem?_toArray, List.getElem?_cons_succ, List.getElem?_cons_zero]; first | done | rfl) (fun K hK => ?_) ?_
                · skip
                  refine step_call (by rfl) (name_any k _ k0 (by omega)) (by go_simp) ?_
                  rintro e v2 ⟨rfl, hb2⟩
                  refine ⟨_, rfl, ?_⟩
                  have HX' := Lib.hid (UA.below (by repeat (first | exact HX.out | apply UA.drew | apply UA.drewN | apply UA.alloc)) hb2)
                  have HL4' := Lib.hid (L4.below (by repeat (first | exact HL4.out | apply L4.drew | apply L4.drewN | apply L4.alloc)) hb2)
                  have HB' := Lib.hid (bl_bl (by repeat (first | exact HB.out | apply bl_drew | apply bl_drewN | apply bl_alloc)) hb2)
                  have HQ' := Lib.hid (Rd.below (by repeat (first | exact HQ.out | apply rd_drew | apply rd_drewN | apply rd_alloc)) hb2)
                  clear hb2
                  have HX := HX'
                  have HL4 := HL4'
                  have HB := HB'
                  have HQ := HQ'
                  clear HX' HL4' HB' HQ'
                  refine hK.out _ _ ?_ (fun hHeld => ?_)
                  · (try dsimp only); (repeat (first | exact HX.out | apply UA.drew | apply UA.drewN | apply UA.alloc))
                  clear hK K
                  try simp only [Act.put, List.setIfInBounds_toArray, List.set_cons_zero, List.set_cons_succ]
                  refine wpAnyH_ready (rs := [5]) (by kernel_rfl) (by simp) ?_
                  refine AllReadyH.cons (by simp only [List.getElem?_toArray, List.getElem?_cons_succ, List.getElem?_cons_zero]; first | done | rfl) (fun K hK => ?_) ?_
                  · skip
                    refine step_call (by rfl) (key_any (nameL k) (n7 : Int) false _ HNL.out) (by go_simp) ?_
                    rintro e v2 ⟨rfl, hd⟩
                    refine ⟨_, rfl, ?_⟩
                    have hb2 := fun B => Dr.below hd B
                    clear hd
                    have HX' := Lib.hid (UA.below (by repeat (first | exact HX.out | apply UA.drew | apply UA.drewN | apply UA.alloc)) (hb2 _))
                    have HL4' := Lib.hid (L4.below (by repeat (first | exact HL4.out | apply L4.drew | apply L4.drewN | apply L4.alloc)) (hb2 _))
                    have HB' := Lib.hid (bl_bl (by repeat (first | exact HB.out | apply bl_drew | apply bl_drewN | apply bl_alloc)) (hb2 _))
                    have HQ' := Lib.hid (Rd.below (by repeat (first | exact HQ.out | apply rd_drew | apply rd_drewN | apply rd_alloc)) (hb2 _))
                    clear hb2
                    have HX := HX'
                    have HL4 := HL4'
                    have HB := HB'
                    have HQ := HQ'
                    clear HX' HL4' HB' HQ'
                    refine hK.out _ _ ?_ (fun hHeld => ?_)
                    · (try dsimp only); (repeat (first | exact HX.out | apply UA.drew | apply UA.drewN | apply UA.alloc))
                    clear hK K
                    try simp only [Act.put, List.setIfInBounds_toArray, List.set_cons_zero, List.set_cons_succ]
                    refine wpAnyH_ready (rs := [8]) (by kernel_rfl) (by simp) ?_
                    refine AllReadyH.cons (by simp only [List.getElem?_toArray, List.getElem?_cons_succ, List.getElem?_cons_zero]; first | done | rfl) (fun K hK => ?_) ?_
                    · skip
                      refine step_value (by rfl) (run_build_op (vals := #[(0, .int .u64 key), (1, .int .u64 (keyF (nameL k) (n7 : Int) false)), (2, .int .u64 X.key)]) rfl (by simp only [List.map_toArray, List.map_cons, List.map_nil]; rfl) (run_build3 key (keyF (nameL k) (n7 : Int) false) X.key _)) ?_
                      try dsimp only
                      obtain ⟨g131, hg131⟩ : ∃ g131, g131 = v2.heap.size := ⟨_, rfl⟩
                      rw [← hg131]
                      refine k_world (fun W' => RdN W' (.slice (some ⟨g131, 0, none⟩) 3 3) [key, keyF (nameL k) (n7 : Int) false, X.key] ∧ Below w.heap.size w W' ∧ UA g23 X W' ∧ L4 g64 u0 u (bentU u what v s) (bentU u what (n3 : Int) [97]) W' ∧ Rd W' (.slice qa (putUOut X).length qc) (putUOut X)) ⟨(by rw [hg131]; exact rdn_three _ _ ⟨ke0, by omega⟩ (keyF_bd _ _ _) OKX.out.key), bl_alloc (by repeat (first | exact HB.out | apply bl_drew | apply bl_drewN | apply bl_alloc)) _, UA.alloc (by repeat (first | exact HX.out | apply UA.drew | apply UA.drewN | apply UA.alloc)) _, L4.alloc (by repeat (first | exact HL4.out | apply L4.drew | apply L4.drewN | apply L4.alloc)) _, rd_alloc (by repeat (first | exact HQ.out | apply rd_drew | apply rd_drewN | apply rd_alloc)) _⟩ ?_
                      rintro v2 ⟨h3, hb, ha, hl, hq⟩
                      clear HB HX HL4 HQ hg131
                      have HN3 := Lib.hid h3
                      have HB := Lib.hid hb
                      have HX := Lib.hid ha
                      have HL4 := Lib.hid hl
                      have HQ := Lib.hid hq
                      clear h3 hb ha hl hq
                      refine hK.out _ _ ?_ (fun hHeld => ?_)
                      · (try dsimp only); (repeat (first | exact HX.out | apply UA.drew | apply UA.drewN | apply UA.alloc))
                      clear hK K
                      try simp only [Act.put, List.setIfInBounds_toArray, List.set_cons_zero, List.set_cons_succ]
                      refine wpAnyH_take (i := 9) (v := ?_) (by simp only [List.getElem?_toArray, List.getElem?_cons_succ, List.getElem?_cons_zero]; first | done | rfl) (by kernel_rfl) (by kernel_rfl) (by kernel_rfl) (fun _ _ _ h => h) (Or.inl ⟨by rfl, ?hy⟩) (by assumption) ?_
                      case hy => (intro w hSw; (try dsimp only at hSw); have c2 := hSw.c2; go_simp; all_goals with_reducible rfl)
                      try simp only [Act.put, List.setIfInBounds_toArray, List.set_cons_zero, List.set_cons_succ]
                      refine wpAnyH_done (by kernel_rfl) ?_ _
                      refine NoPanic.normal ?_
                      go_wp2_with fail
                      go_loopw [133] (fun v133 wr => ∃ j : Nat, v133 = .int .i64 j ∧ j ≤ 3 ∧ UA g23 X wr ∧ L4 g64 u0 u (bentU u what v s) (bentU u what (n3 : Int) [97]) wr ∧ Rd wr (.slice qa (putUOut X).length qc) (putUOut X) ∧ RdN wr (.slice (some ⟨g131, 0, none⟩) 3 3) [key, keyF (nameL k) (n7 : Int) false, X.key] ∧ Below w.heap.size w wr) (fun v133 _ => 3 - (intOf v133).toNat)
                      case atStart => exact ⟨0, rfl, by omega, HX.out, HL4.out, HQ.out, HN3.out, HB.out⟩
                      case round =>
                        obtain ⟨j, rfl, hj, h1, h2, h3, h4, h5⟩ := hrel
                        clear HX HL4 HQ HN3 HB
                        have HX := Lib.hid h1
                        have HL4 := Lib.hid h2
                        have HQ := Lib.hid h3
                        have HN3 := Lib.hid h4
                        have HB := Lib.hid h5
                        clear h1 h2 h3 h4 h5
                        by_cases hlt : j < 3
                        · obtain ⟨z, hc, hz⟩ := HN3.out.at_ j hlt
                          have hj0 : (0 : Int) ≤ (j : Int) := by omega
                          have hj3 : (j : Int) < 3 := by omega
                          go_upto_region 17 with fail
                          obtain ⟨W, hW⟩ : ∃ W, W = wr := ⟨_, rfl⟩
                          rw [← hW] at HX HL4 HQ HN3 HB ⊢
                          clear hW hc
                          refine wp_region_noPanic ?_
                          refine wp_region_held_drew (S := (fun w' => UA g23 X w')) (by kernel_rfl) ?_ (fun hHeld => ?_)
                          · (try dsimp only); (repeat (first | exact HX.out | apply UA.drew | apply UA.drewN | apply UA.alloc))
                          refine wpAnyH_take (i := 0) (by simp only [List.getElem?_toArray, List.getElem?_cons_succ, List.getElem?_cons_zero]; first | done | rfl) (by kernel_rfl) (by kernel_rfl) (by kernel_rfl) (fun _ _ _ h => h) (yields_up (by rfl) _ rfl g23 X rfl (fun w hw => hw)) (by assumption) ?_
                          try simp only [Act.put, List.setIfInBounds_toArray, List.set_cons_zero, List.set_cons_succ]
                          refine wpAnyH_take (i := 1) (v := ?_) (by simp only [List.getElem?_toArray, List.getElem?_cons_succ, List.getElem?_cons_zero]; first | done | rfl) (by kernel_rfl) (by kernel_rfl) (by kernel_rfl) (fun _ _ _ h => h) (Or.inl ⟨by rfl, ?hy⟩) (by assumption) ?_
                          case hy => (intro w hSw; (try dsimp only at hSw); go_simp; all_goals with_reducible rfl)
                          try simp only [Act.put, List.setIfInBounds_toArray, List.set_cons_zero, List.set_cons_succ]
                          refine wpAnyH_take (i := 3) (by simp only [List.getElem?_toArray, List.getElem?_cons_succ, List.getElem?_cons_zero]; first | done | rfl) (by kernel_rfl) (by kernel_rfl) (by kernel_rfl) (fun _ _ _ h => h) (yields_up (by rfl) _ rfl g23 X rfl (fun w hw => hw)) (by assumption) ?_
                          try simp only [Act.put, List.setIfInBounds_toArray, List.set_cons_zero, List.set_cons_succ]
                          refine wpAnyH_take (i := 4) (v := ?_) (by simp only [List.getElem?_toArray, List.getElem?_cons_succ, List.getElem?_cons_zero]; first | done | rfl) (by kernel_rfl) (by kernel_rfl) (by kernel_rfl) (fun _ _ _ h => h) (Or.inl ⟨by rfl, ?hy⟩) (by assumption) ?_
                          case hy => (intro w hSw; (try dsimp only at hSw); go_simp; all_goals with_reducible rfl)
                          try simp only [Act.put, List.setIfInBounds_toArray, List.set_cons_zero, List.set_cons_succ]
                          refine wpAnyH_ready (rs := [2]) (by kernel_rfl) (by simp) ?_
                          refine AllReadyH.cons (by simp only [List.getElem?_toArray, List.getElem?_cons_succ, List.getElem?_cons_zero]; first | done | rfl) (fun K hK => ?_) ?_
                          · skip
                            refine step_call (by rfl) (checkU_any z X _ hz.1 hz.2 OKX.out) (by go_simp) ?_
                            rintro e v2 ⟨rfl, hb2⟩
                            refine ⟨_, rfl, ?_⟩
                            have HX' := Lib.hid (UA.below (by repeat (first | exact HX.out | apply UA.drew | apply UA.drewN | apply UA.alloc)) hb2)
                            have HL4' := Lib.hid (L4.below (by repeat (first | exact HL4.out | apply L4.drew | apply L4.drewN | apply L4.alloc)) hb2)
                            have HB' := Lib.hid (bl_bl (by repeat (first | exact HB.out | apply bl_drew | apply bl_drewN | apply bl_alloc)) hb2)
                            have HQ' := Lib.hid (Rd.below (by repeat (first | exact HQ.out | apply rd_drew | apply rd_drewN | apply rd_alloc)) hb2)
                            have HN3' := Lib.hid (RdN.below (by repeat (first | exact HN3.out | apply RdN.drew | apply RdN.drewN | apply RdN.alloc)) hb2)
                            clear hb2
                            have HX := HX'
                            have HL4 := HL4'
                            have HB := HB'
                            have HQ := HQ'
                            have HN3 := HN3'
                            clear HX' HL4' HB' HQ' HN3'
                            refine hK.out _ _ ?_ (fun hHeld => ?_)
                            · (try dsimp only); (repeat (first | exact HX.out | apply UA.drew | apply UA.drewN | apply UA.alloc))
                            clear hK K
                            try simp only [Act.put, List.setIfInBounds_toArray, List.set_cons_zero, List.set_cons_succ]
                            refine wpAnyH_ready (rs := [5]) (by kernel_rfl) (by simp) ?_
                            refine AllReadyH.cons (by simp only [List.getElem?_toArray, List.getElem?_cons_succ, List.getElem?_cons_zero]; first | done | rfl) (fun K hK => ?_) ?_
                            · skip
                              refine step_call (by rfl) (rcheckU_any z X _ hz.1 hz.2 OKX.out) (by go_simp) ?_
                              rintro e v2 ⟨rfl, hb2⟩
                              refine ⟨_, rfl, ?_⟩
                              have HX' := Lib.hid (UA.below (by repeat (first | exact HX.out | apply UA.drew | apply UA.drewN | apply UA.alloc)) hb2)
                              have HL4' := Lib.hid (L4.below (by repeat (first | exact HL4.out | apply L4.drew | apply L4.drewN | apply L4.alloc)) hb2)
                              have HB' := Lib.hid (bl_bl (by repeat (first | exact HB.out | apply bl_drew | apply bl_drewN | apply bl_alloc)) hb2)
                              have HQ' := Lib.hid (Rd.below (by repeat (first | exact HQ.out | apply rd_drew | apply rd_drewN | apply rd_alloc)) hb2)
                              have HN3' := Lib.hid (RdN.below (by repeat (first | exact HN3.out | apply RdN.drew | apply RdN.drewN | apply RdN.alloc)) hb2)
                              clear hb2
                              have HX := HX'
                              have HL4 := HL4'
                              have HB := HB'
                              have HQ := HQ'
                              have HN3 := HN3'
                              clear HX' HL4' HB' HQ' HN3'
                              refine hK.out _ _ ?_ (fun hHeld => ?_)
                              · (try dsimp only); (repeat (first | exact HX.out | apply UA.drew | apply UA.drewN | apply UA.alloc))
                              clear hK K
                              try simp only [Act.put, List.setIfInBounds_toArray, List.set_cons_zero, List.set_cons_succ]
                              refine wpAnyH_take (i := 6) (v := ?_) (by simp only [List.getElem?_toArray, List.getElem?_cons_succ, List.getElem?_cons_zero]; first | done | rfl) (by kernel_rfl) (by kernel_rfl) (by kernel_rfl) (fun _ _ _ h => h) (Or.inl ⟨by rfl, ?hy⟩) (by assumption) ?_
                              case hy => (intro w hSw; (try dsimp only at hSw); go_simp; all_goals with_reducible rfl)
                              try simp only [Act.put, List.setIfInBounds_toArray, List.set_cons_zero, List.set_cons_succ]
                              refine wpAnyH_done (by kernel_rfl) ?_ _
                              refine NoPanic.normal ?_
                              go_wp2_with fail
                              go_roundw
                              case rel => exact ⟨j + 1, by go_num, by omega, HX.out, HL4.out, HQ.out, HN3.out, HB.out⟩
                              case measure => simp [intOf]; omega
                            exact AllReadyH.nil
                          exact AllReadyH.nil
                        · obtain rfl : j = 3 := by omega
                          have HX3 := HX
                          cases hr : rightU X with
                          | false =>
                            have hpe : putUErr X = 23 := (put_wrong X hr).1
                            go_wp2_with fail
                            go_roundw
                            case rel => exact ⟨i + 1, by go_num, by omega, HL4.out, HB.out⟩
                            case measure => simp [intOf]; omega
                          | true =>
                            have hpe : putUErr X = 0 := (put_right X hr).1
                            have hq := HQ.out
                            rw [(put_right X hr).2] at hq
                            have HQ2 := Lib.hid hq
                            have hrp := read_putU X OKX.out hr
                            have HRP := Lib.hid hrp
                            have HPO := Lib.hid (put_right X hr).2
                            have hbl := bytesU_length X
                            have hbn := OKX.out.nm
                            have HBL := Lib.hid (show (bytesU X).length ≤ 1099511627776 by omega)
                            clear hq hrp hbl hbn HQ
                            go_wp2_with fail
                            rw [HPO.out]
                            refine (readU_any _ (bytesU X) _ HQ2.out HBL.out).mono ?_
                            rintro e w7 ⟨rfl, hb7⟩
                            rw [HRP.out]
                            have HX7 := Lib.hid (HX.out.below hb7)
                            have HL47 := Lib.hid (HL4.out.below hb7)
                            have HB7 := Lib.hid (bl_bl HB.out hb7)
                            clear hb7
                            go_upto_region 22 with (refine wpList_store_row rfl 30 (.tmp 31) (.tmp 150) rfl w7.heap.size X.cells.toArray rfl rfl 30 _ (heap_alloc_new _ _) (up_size _) rfl (all_oneCell_toArray (Up.cells_one _)) ?_)
                            refine wp_world (fun Y => UA g23 X Y ∧ UA w7.heap.size X Y ∧ L4 g64 u0 u (bentU u what v s) (bentU u what (n3 : Int) [97]) Y ∧ Below w.heap.size w Y) ⟨HX7.out.below (below_fresh _ _ _), ⟨setRow_heap _ _ _ _ _ _ (heap_alloc_new _ _)⟩, HL47.out.below (below_fresh _ _ _), bl_bl HB7.out (below_fresh _ _ _)⟩ ?_
                            generalize w7.heap.size = g31
                            clear HX HL4 HB HX7 HL47 HB7
                            rintro Z ⟨h1, h2, h3, h4⟩
                            have HX := Lib.hid h1
                            have HY := Lib.hid h2
                            have HL4 := Lib.hid h3
                            have HB := Lib.hid h4
                            clear h1 h2 h3 h4
                            (try simp only [Act.put, List.setIfInBounds_toArray, List.set_cons_zero, List.set_cons_succ])
                            go_wp2_with (first
                              | refine wpList_load_up_g (by rfl) (.tmp 31) rfl g31 X rfl HY.out ?_
                              | refine wpList_load_up_g (by rfl) (.tmp 23) rfl g23 X rfl HX.out ?_
                              | refine wpList_neq_up_g (by rfl) (.tmp 155) (.tmp 156) _ rfl X rfl rfl OKX.out ?_)
                            go_roundw
                            case rel => exact ⟨i + 1, by go_num, by omega, HL4.out, HB.out⟩
                            case measure => simp [intOf]; omega
                    exact AllReadyH.nil
                  exact AllReadyH.nil
                exact AllReadyH.nil
          · obtain rfl : i = 4 := by omega
            go_wp2_with fail
            go_ret
            exact ⟨rfl, HB.out⟩
      exact AllReadyH.nil
    exact AllReadyH.nil
  exact AllReadyH.nil
end Go.Proofs.Ytjfkkcoapeipbaa
