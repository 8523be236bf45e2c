/-
  Requests: messages, signatures, bytes, the program's and the reference's.
-/
import Derived.Test.YtbhkcgnlegmjlaaUpR
namespace Go.Proofs.Ytbhkcgnlegmjlaa
set_option linter.unusedVariables false
set_option linter.unusedSimpArgs false
open Go.RowKit
attribute [local irreducible] checkF putF

theorem rdl_five (w : World) {u1 u2 u3 u4 u5 : Value} {l1 l2 l3 l4 l5 : List UInt8} (T : TypeId) (h1 : Rd w u1 l1) (h2 : Rd w u2 l2) (h3 : Rd w u3 l3) (h4 : Rd w u4 l4) (h5 : Rd w u5 l5) :
    RdL (w.alloc (.cells #[u1, u2, u3, u4, u5] T)) (.slice (some ⟨w.heap.size, 0, none⟩) 5 5) [l1, l2, l3, l4, l5] := by
  refine .inr ⟨_, 0, 5, rfl, by simp, by decide, fun i hi => ?_⟩
  have hb := bl_alloc (Below.refl w.heap.size w) (.cells #[u1, u2, u3, u4, u5] T)
  rw [Nat.zero_add, cell_of_row _ _ _ _ _ _ (heap_alloc_new _ _)]
  match i, hi with
  | 0, _ => exact ⟨_, rfl, h1.below hb⟩
  | 1, _ => exact ⟨_, rfl, h2.below hb⟩
  | 2, _ => exact ⟨_, rfl, h3.below hb⟩
  | 3, _ => exact ⟨_, rfl, h4.below hb⟩
  | 4, _ => exact ⟨_, rfl, h5.below hb⟩
theorem UA.range {g : Nat} {u : Up} {w : World} (k : UA g u w) : w.rangeAt g 0 u.cells := fun j v hv => by
  rw [cell_of_row _ _ _ _ _ _ k.row, Nat.zero_add, List.getElem?_toArray]
  exact hv
theorem yields_up {ops : Array Oper} {S : World → Prop} {op : Oper} {a : Act} (hw : Region.wanted op (yielded ops a.tmps) = true) (x : Operand) (ho : op.op = .load 85 x) (g : Nat) (u : Up)
    (hx : a.eval x = .pointer (some ⟨g, 0, none⟩)) (hS : ∀ w, S w → UA g u w) : YieldsIf Try.prog ops S op (upV u) a :=
  yieldsIf_load_mid hw 85 x ho g 0 hx u.cells _ (fun w hw' => (hS w hw').range) Try.underlying85 rfl (by rw [up_size u, List.size_toArray])
theorem UA.setSig {g : Nat} {u : Up} {w : World} (k : UA g u w) (r s : Int) : UA g { u with r := r, s := s } ((w.setCell ⟨g, 4, none⟩ (.int .u64 r)).setCell ⟨g, 5, none⟩ (.int .u64 s)) := by
  refine ⟨?_⟩
  rw [heap_setCell_same _ _ _ _ _ _ (heap_setCell_same _ _ _ _ _ _ k.row)]
  rfl
theorem signU_val (x : Int) (m : List UInt8) : signV x m = .agg #[.int .u64 (sigR (x % 2305843009213693950) m), .int .u64 (sigS (x % 2305843009213693950) m)] := rfl

set_option maxRecDepth 100000 in
set_option maxHeartbeats 3200000 in
theorem rfields_any (n : List UInt8) (v k : Int) (w : World) (hn : n.length ≤ 1048576) (hk : isU64 k) : Calls Try.prog 44 #[entV n v k] w (GivesOwn w (fieldsE n v k)) := by
  show Calls _ _ #[.agg (entCells n v k).toArray] w _
  have HLM := Lib.hid hn
  clear hn
  go_enter Try.func44, Try.ntmps44
  go_upto_region 1 with fail
  refine wp_world (fun W => EA w.heap.size n v k W ∧ Below w.heap.size w W) ⟨EA.new _ _ _ _, bl_alloc (Below.refl _ _) _⟩ ?_
  rintro W ⟨hA, hB⟩
  have HH := Lib.hid hA
  have HB := Lib.hid hB
  clear hA hB
  have c0 := HH.out.c0
  go_wp2_with (refine wpList_conv_sb rfl (.tmp 5) rfl rfl (by have := HLM.out; omega) ?_)
  intro u1 w1 hu1 hb1
  have HU1 := Lib.hid hu1
  have HH1 := Lib.hid (HH.out.below hb1)
  have HB1 := Lib.hid (bl_bl HB.out hb1)
  clear hu1 hb1 c0
  go_wp2_with fail
  refine (rlump_any _ n _ HU1.out (by have := HLM.out; omega)).mono ?_
  rintro e w2 ⟨u2, rfl, hu2, hb2⟩
  obtain ⟨b2, d2, rfl⟩ := hu2.rd.shape
  have HO2 := Lib.hid (hu2.mono (B' := w.heap.size + 1) (by have := HH1.out.lt; omega))
  have HH2 := Lib.hid (HH1.out.below hb2)
  have HB2 := Lib.hid (bl_bl HB1.out hb2)
  have c1 := HH2.out.c1
  clear hu2 hb2
  go_wp2_with fail
  refine (rnum_any (u64 v) _ (u64_bd _).1 (u64_bd _).2).mono ?_
  rintro e w3 ⟨u3, rfl, hu3, hb3⟩
  obtain ⟨b3, d3, rfl⟩ := hu3.rd.shape
  have HU3 := Lib.hid hu3.rd
  have HO3 := Lib.hid (HO2.out.below hb3)
  have HH3 := Lib.hid (HH2.out.below hb3)
  have HB3 := Lib.hid (bl_bl HB2.out hb3)
  clear hu3 hb3 c1
  go_wp2_with (at_builtin; refine wpList_append_bytes rfl (.tmp 8) (.tmp 12) rfl (w.heap.size + 1) rfl rfl HO3.out HU3.out (by have := HLM.out; simp [lumpB_length, numB_length]; omega) (by have := HH3.out.lt; omega) ?_)
  intro u4 w4 ho hg
  have hf : fieldsE n v k = (lumpB n ++ numB (u64 v)) ++ numB k := by simp [fieldsE]
  have hql : (lumpB n ++ numB (u64 v)).length ≤ 1048592 := by have := HLM.out; simp [lumpB_length, numB_length]; omega
  generalize lumpB n ++ numB (u64 v) = q at ho hf hql
  have HF := Lib.hid hf
  have HQL := Lib.hid hql
  clear hf hql
  obtain ⟨b4, d4, rfl⟩ := ho.rd.shape
  have HO4 := Lib.hid ho
  have HH4 := Lib.hid (HH3.out.grown hg (fun e => by have := Own.row HO3.out _ e; omega))
  have HB4 := Lib.hid (below_grown HB3.out hg (fun k hk => by have := Own.row HO3.out k hk; omega))
  have c2 := HH4.out.c2
  clear ho hg
  go_wp2_with fail
  refine (rnum_any k _ hk.1 hk.2).mono ?_
  rintro e w5 ⟨u5, rfl, hu5, hb5⟩
  obtain ⟨b5, d5, rfl⟩ := hu5.rd.shape
  have HU5 := Lib.hid hu5.rd
  have HO5 := Lib.hid (HO4.out.below hb5)
  have HH5 := Lib.hid (HH4.out.below hb5)
  have HB5 := Lib.hid (bl_bl HB4.out hb5)
  clear hu5 hb5 c2
  go_wp2_with (at_builtin; refine wpList_append_bytes rfl (.tmp 14) (.tmp 17) rfl (w.heap.size + 1) rfl rfl HO5.out HU5.out (by have := HQL.out; rw [numB_length]; omega) (by have := HH5.out.lt; omega) ?_; intro u6 w6 ho hg)
  have HB6 := Lib.hid (below_grown HB5.out hg (fun k hk => by have := Own.row HO5.out k hk; omega))
  have HO6 := Lib.hid (ho.mono (Nat.le_succ _))
  clear ho hg
  go_ret
  exact ⟨_, rfl, by rw [HF.out]; exact HO6.out, HB6.out⟩

end Go.Proofs.Ytbhkcgnlegmjlaa
