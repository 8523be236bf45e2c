/-
  Requests: one that is another one in a field.
-/
import Derived.Test.YtjfkkcoapeipbaaUpT
import Derived.Test.YtjfkkcoapeipbaaUpG
namespace Go.Proofs.Ytjfkkcoapeipbaa
set_option linter.unusedVariables false
set_option linter.unusedSimpArgs false
open Go.RowKit

theorem and_i64 (x : Int) (m : Nat) (hm : m < 4294967296) : ∃ n : Nat, n ≤ m ∧ bits .and .i64 x (m : Int) = n := by
  refine ⟨(BitVec.ofInt 64 x &&& BitVec.ofInt 64 (m : Int)).toNat, ?_, ?_⟩
  · rw [BitVec.toNat_and, show (BitVec.ofInt 64 (m : Int)).toNat = m from ofInt_u64 m (by omega)]
    exact Nat.and_le_right
  · have h : (BitVec.ofInt 64 x &&& BitVec.ofInt 64 (m : Int)).toNat ≤ m := by
      rw [BitVec.toNat_and, show (BitVec.ofInt 64 (m : Int)).toNat = m from ofInt_u64 m (by omega)]
      exact Nat.and_le_right
    show IntKind.i64.wrap ((BitVec.ofInt 64 x &&& BitVec.ofInt 64 (m : Int)).toNat : Int) = _
    rw [IntKind.wrap_i64]
    omega
theorem UA.set0 {g : Nat} {u : Up} {w : World} (k : UA g u w) (x : List UInt8) : UA g { u with nm := x } (w.setCell ⟨g, 0, none⟩ (.string ⟨x.toArray⟩)) := by
  refine ⟨?_⟩
  rw [heap_setCell_same _ _ _ _ _ _ k.row]
  rfl
theorem UA.set1 {g : Nat} {u : Up} {w : World} (k : UA g u w) (x : Int) : UA g { u with ver := x } (w.setCell ⟨g, 1, none⟩ (.int .i64 x)) := by
  refine ⟨?_⟩
  rw [heap_setCell_same _ _ _ _ _ _ k.row]
  rfl
def bentU (u : Up) (what v : Int) (s : List UInt8) : Up :=
  if what % 7 = 0 then { u with nm := s } else if what % 7 = 1 then { u with ver := v } else if what % 7 = 2 then { u with key := u64 v } else if what % 7 = 3 then { u with cls := v } else if what % 7 = 4 then { u with r := u64 v } else if what % 7 = 5 then { u with s := u64 v }
  else { u with key := u64 (2305843009213693950 + u64 (bits .and .i64 v 1)) }
theorem bentU_ok (u : Up) (what v : Int) (s : List UInt8) (ok : u.ok) (hs : s.length ≤ 1048576) (hv : isI64 v) : (bentU u what v s).ok := by
  unfold bentU
  (repeat' split)
  · exact ⟨hs, ok.ver, ok.key, ok.cls, ok.r, ok.s⟩
  · exact ⟨ok.nm, hv, ok.key, ok.cls, ok.r, ok.s⟩
  · exact ⟨ok.nm, ok.ver, u64_bd _, ok.cls, ok.r, ok.s⟩
  · exact ⟨ok.nm, ok.ver, ok.key, hv, ok.r, ok.s⟩
  · exact ⟨ok.nm, ok.ver, ok.key, ok.cls, u64_bd _, ok.s⟩
  · exact ⟨ok.nm, ok.ver, ok.key, ok.cls, ok.r, u64_bd _⟩
  · exact ⟨ok.nm, ok.ver, u64_bd _, ok.cls, ok.r, ok.s⟩

set_option maxRecDepth 100000 in
set_option maxHeartbeats 32000000 in
theorem bent_any (u : Up) (what v : Int) (s : List UInt8) (w : World) (h0 : 0 ≤ what) (h1 : what < 256) (hv : isI64 v) :
    Calls Try.prog 13 #[upV u, .int .u8 what, .int .i64 v, .string ⟨s.toArray⟩] w fun e w' => e = .returned (upV (bentU u what v s)) ∧ Below w.heap.size w w' := by
  show Calls _ _ #[.agg u.cells.toArray, .int .u8 what, .int .i64 v, .string ⟨s.toArray⟩] w _
  have hwv : IntKind.u64.wrap v = u64 v := by rw [IntKind.wrap_u64]; rfl
  have h : what % 7 = 0 ∨ what % 7 = 1 ∨ what % 7 = 2 ∨ what % 7 = 3 ∨ what % 7 = 4 ∨ what % 7 = 5 ∨ what % 7 = 6 := by omega
  rcases h with e | e | e | e | e | e | e
  · have hB : bentU u what v s = { u with nm := s } := by
      unfold bentU
      rw [e]
      simp only [reduceIte, Int.reduceEq]
    rw [hB]
    clear hB
    go_enter Try.func13, Try.ntmps13
    go_upto_region 1 with fail
    rw [up_zero]
    refine wp_world (fun W => UA w.heap.size u W ∧ UA (w.heap.size + 1) zeroU W ∧ Below w.heap.size w W) ⟨(UA.new u w).alloc _, by rw [show w.heap.size + 1 = (w.alloc (.cells u.cells.toArray 30)).heap.size by simp]; exact UA.new zeroU _, bl_alloc (bl_alloc (Below.refl _ _) _) _⟩ ?_
    rintro W ⟨hA, hR, hB⟩
    have HA := Lib.hid hA
    have HR := Lib.hid hR
    have HB := Lib.hid hB
    have c0 := hA.c0
    have f0 := frozen_of_row _ _ 0 _ _ hA.row
    clear hA hR hB
    go_upto_region 15 with fail
    refine wp_world (fun W => UA w.heap.size { u with nm := s } W ∧ UA (w.heap.size + 1) zeroU W ∧ Below w.heap.size w W) ⟨HA.out.set0 s, HR.out.setOther (by omega) _, below_set HB.out _ _ _ (Nat.le_refl _)⟩ ?_
    clear HA HR HB c0 f0
    rintro Z ⟨hA, hR, hB⟩
    have HA := Lib.hid hA
    have HR := Lib.hid hR
    have HB := Lib.hid hB
    clear hA hR hB
    generalize hV : ({ u with nm := s } : Up) = V at *
    have HVV := Lib.hid hV
    clear hV
    refine wp_region_lit ?_
    refine wpList_load_row rfl 30 (.tmp 4) rfl w.heap.size rfl 30 _ (0, 0) _ HA.out.row Try.underlying30 rfl (up_size _) ?_
    refine wpList_store_row rfl 30 (.tmp 8) (.tmp 45) rfl (w.heap.size + 1) V.cells.toArray rfl rfl 30 _ HR.out.row (up_size _) rfl (all_oneCell_toArray V.cells_one) ?_
    go_wp2_with fail
    exact bodyPost_ret (v := upV V) (results_cell_row rfl _ _ (w.heap.size + 1) 30 _ (0, 0) _ rfl (setRow_heap _ _ _ _ _ _ HR.out.row) Try.underlying30 rfl (up_size _)) rfl ⟨by rw [← HVV.out], below_setRow HB.out (by omega)⟩
  · have hB : bentU u what v s = { u with ver := v } := by
      unfold bentU
      rw [e]
      simp only [reduceIte, Int.reduceEq]
    rw [hB]
    clear hB
    go_enter Try.func13, Try.ntmps13
    go_upto_region 1 with fail
    rw [up_zero]
    refine wp_world (fun W => UA w.heap.size u W ∧ UA (w.heap.size + 1) zeroU W ∧ Below w.heap.size w W) ⟨(UA.new u w).alloc _, by rw [show w.heap.size + 1 = (w.alloc (.cells u.cells.toArray 30)).heap.size by simp]; exact UA.new zeroU _, bl_alloc (bl_alloc (Below.refl _ _) _) _⟩ ?_
    rintro W ⟨hA, hR, hB⟩
    have HA := Lib.hid hA
    have HR := Lib.hid hR
    have HB := Lib.hid hB
    have c1 := hA.c1
    have f1 := frozen_of_row _ _ 1 _ _ hA.row
    clear hA hR hB
    go_upto_region 15 with fail
    refine wp_world (fun W => UA w.heap.size { u with ver := v } W ∧ UA (w.heap.size + 1) zeroU W ∧ Below w.heap.size w W) ⟨HA.out.set1 v, HR.out.setOther (by omega) _, below_set HB.out _ _ _ (Nat.le_refl _)⟩ ?_
    clear HA HR HB c1 f1
    rintro Z ⟨hA, hR, hB⟩
    have HA := Lib.hid hA
    have HR := Lib.hid hR
    have HB := Lib.hid hB
    clear hA hR hB
    generalize hV : ({ u with ver := v } : Up) = V at *
    have HVV := Lib.hid hV
    clear hV
    refine wp_region_lit ?_
    refine wpList_load_row rfl 30 (.tmp 4) rfl w.heap.size rfl 30 _ (0, 0) _ HA.out.row Try.underlying30 rfl (up_size _) ?_
    refine wpList_store_row rfl 30 (.tmp 8) (.tmp 45) rfl (w.heap.size + 1) V.cells.toArray rfl rfl 30 _ HR.out.row (up_size _) rfl (all_oneCell_toArray V.cells_one) ?_
    go_wp2_with fail
    exact bodyPost_ret (v := upV V) (results_cell_row rfl _ _ (w.heap.size + 1) 30 _ (0, 0) _ rfl (setRow_heap _ _ _ _ _ _ HR.out.row) Try.underlying30 rfl (up_size _)) rfl ⟨by rw [← HVV.out], below_setRow HB.out (by omega)⟩
  · have hB : bentU u what v s = { u with key := u64 v } := by
      unfold bentU
      rw [e]
      simp only [reduceIte, Int.reduceEq]
    rw [hB]
    clear hB
    go_enter Try.func13, Try.ntmps13
    go_upto_region 1 with fail
    rw [up_zero]
    refine wp_world (fun W => UA w.heap.size u W ∧ UA (w.heap.size + 1) zeroU W ∧ Below w.heap.size w W) ⟨(UA.new u w).alloc _, by rw [show w.heap.size + 1 = (w.alloc (.cells u.cells.toArray 30)).heap.size by simp]; exact UA.new zeroU _, bl_alloc (bl_alloc (Below.refl _ _) _) _⟩ ?_
    rintro W ⟨hA, hR, hB⟩
    have HA := Lib.hid hA
    have HR := Lib.hid hR
    have HB := Lib.hid hB
    have c2 := hA.c2
    have f2 := frozen_of_row _ _ 2 _ _ hA.row
    clear hA hR hB
    go_upto_region 15 with fail
    refine wp_world (fun W => UA w.heap.size { u with key := u64 v } W ∧ UA (w.heap.size + 1) zeroU W ∧ Below w.heap.size w W) ⟨HA.out.set2 (u64 v), HR.out.setOther (by omega) _, below_set HB.out _ _ _ (Nat.le_refl _)⟩ ?_
    clear HA HR HB c2 f2
    rintro Z ⟨hA, hR, hB⟩
    have HA := Lib.hid hA
    have HR := Lib.hid hR
    have HB := Lib.hid hB
    clear hA hR hB
    generalize hV : ({ u with key := u64 v } : Up) = V at *
    have HVV := Lib.hid hV
    clear hV
    refine wp_region_lit ?_
    refine wpList_load_row rfl 30 (.tmp 4) rfl w.heap.size rfl 30 _ (0, 0) _ HA.out.row Try.underlying30 rfl (up_size _) ?_
    refine wpList_store_row rfl 30 (.tmp 8) (.tmp 45) rfl (w.heap.size + 1) V.cells.toArray rfl rfl 30 _ HR.out.row (up_size _) rfl (all_oneCell_toArray V.cells_one) ?_
    go_wp2_with fail
    exact bodyPost_ret (v := upV V) (results_cell_row rfl _ _ (w.heap.size + 1) 30 _ (0, 0) _ rfl (setRow_heap _ _ _ _ _ _ HR.out.row) Try.underlying30 rfl (up_size _)) rfl ⟨by rw [← HVV.out], below_setRow HB.out (by omega)⟩
  · have hB : bentU u what v s = { u with cls := v } := by
      unfold bentU
      rw [e]
      simp only [reduceIte, Int.reduceEq]
    rw [hB]
    clear hB
    go_enter Try.func13, Try.ntmps13
    go_upto_region 1 with fail
    rw [up_zero]
    refine wp_world (fun W => UA w.heap.size u W ∧ UA (w.heap.size + 1) zeroU W ∧ Below w.heap.size w W) ⟨(UA.new u w).alloc _, by rw [show w.heap.size + 1 = (w.alloc (.cells u.cells.toArray 30)).heap.size by simp]; exact UA.new zeroU _, bl_alloc (bl_alloc (Below.refl _ _) _) _⟩ ?_
    rintro W ⟨hA, hR, hB⟩
    have HA := Lib.hid hA
    have HR := Lib.hid hR
    have HB := Lib.hid hB
    have c3 := hA.c3
    have f3 := frozen_of_row _ _ 3 _ _ hA.row
    clear hA hR hB
    go_upto_region 15 with fail
    refine wp_world (fun W => UA w.heap.size { u with cls := v } W ∧ UA (w.heap.size + 1) zeroU W ∧ Below w.heap.size w W) ⟨HA.out.set3 v, HR.out.setOther (by omega) _, below_set HB.out _ _ _ (Nat.le_refl _)⟩ ?_
    clear HA HR HB c3 f3
    rintro Z ⟨hA, hR, hB⟩
    have HA := Lib.hid hA
    have HR := Lib.hid hR
    have HB := Lib.hid hB
    clear hA hR hB
    generalize hV : ({ u with cls := v } : Up) = V at *
    have HVV := Lib.hid hV
    clear hV
    refine wp_region_lit ?_
    refine wpList_load_row rfl 30 (.tmp 4) rfl w.heap.size rfl 30 _ (0, 0) _ HA.out.row Try.underlying30 rfl (up_size _) ?_
    refine wpList_store_row rfl 30 (.tmp 8) (.tmp 45) rfl (w.heap.size + 1) V.cells.toArray rfl rfl 30 _ HR.out.row (up_size _) rfl (all_oneCell_toArray V.cells_one) ?_
    go_wp2_with fail
    exact bodyPost_ret (v := upV V) (results_cell_row rfl _ _ (w.heap.size + 1) 30 _ (0, 0) _ rfl (setRow_heap _ _ _ _ _ _ HR.out.row) Try.underlying30 rfl (up_size _)) rfl ⟨by rw [← HVV.out], below_setRow HB.out (by omega)⟩
  · have hB : bentU u what v s = { u with r := u64 v } := by
      unfold bentU
      rw [e]
      simp only [reduceIte, Int.reduceEq]
    rw [hB]
    clear hB
    go_enter Try.func13, Try.ntmps13
    go_upto_region 1 with fail
    rw [up_zero]
    refine wp_world (fun W => UA w.heap.size u W ∧ UA (w.heap.size + 1) zeroU W ∧ Below w.heap.size w W) ⟨(UA.new u w).alloc _, by rw [show w.heap.size + 1 = (w.alloc (.cells u.cells.toArray 30)).heap.size by simp]; exact UA.new zeroU _, bl_alloc (bl_alloc (Below.refl _ _) _) _⟩ ?_
    rintro W ⟨hA, hR, hB⟩
    have HA := Lib.hid hA
    have HR := Lib.hid hR
    have HB := Lib.hid hB
    have c4 := hA.c4
    have f4 := frozen_of_row _ _ 4 _ _ hA.row
    clear hA hR hB
    go_upto_region 15 with fail
    refine wp_world (fun W => UA w.heap.size { u with r := u64 v } W ∧ UA (w.heap.size + 1) zeroU W ∧ Below w.heap.size w W) ⟨HA.out.set4 (u64 v), HR.out.setOther (by omega) _, below_set HB.out _ _ _ (Nat.le_refl _)⟩ ?_
    clear HA HR HB c4 f4
    rintro Z ⟨hA, hR, hB⟩
    have HA := Lib.hid hA
    have HR := Lib.hid hR
    have HB := Lib.hid hB
    clear hA hR hB
    generalize hV : ({ u with r := u64 v } : Up) = V at *
    have HVV := Lib.hid hV
    clear hV
    refine wp_region_lit ?_
    refine wpList_load_row rfl 30 (.tmp 4) rfl w.heap.size rfl 30 _ (0, 0) _ HA.out.row Try.underlying30 rfl (up_size _) ?_
    refine wpList_store_row rfl 30 (.tmp 8) (.tmp 45) rfl (w.heap.size + 1) V.cells.toArray rfl rfl 30 _ HR.out.row (up_size _) rfl (all_oneCell_toArray V.cells_one) ?_
    go_wp2_with fail
    exact bodyPost_ret (v := upV V) (results_cell_row rfl _ _ (w.heap.size + 1) 30 _ (0, 0) _ rfl (setRow_heap _ _ _ _ _ _ HR.out.row) Try.underlying30 rfl (up_size _)) rfl ⟨by rw [← HVV.out], below_setRow HB.out (by omega)⟩
  · have hB : bentU u what v s = { u with s := u64 v } := by
      unfold bentU
      rw [e]
      simp only [reduceIte, Int.reduceEq]
    rw [hB]
    clear hB
    go_enter Try.func13, Try.ntmps13
    go_upto_region 1 with fail
    rw [up_zero]
    refine wp_world (fun W => UA w.heap.size u W ∧ UA (w.heap.size + 1) zeroU W ∧ Below w.heap.size w W) ⟨(UA.new u w).alloc _, by rw [show w.heap.size + 1 = (w.alloc (.cells u.cells.toArray 30)).heap.size by simp]; exact UA.new zeroU _, bl_alloc (bl_alloc (Below.refl _ _) _) _⟩ ?_
    rintro W ⟨hA, hR, hB⟩
    have HA := Lib.hid hA
    have HR := Lib.hid hR
    have HB := Lib.hid hB
    have c5 := hA.c5
    have f5 := frozen_of_row _ _ 5 _ _ hA.row
    clear hA hR hB
    go_upto_region 15 with fail
    refine wp_world (fun W => UA w.heap.size { u with s := u64 v } W ∧ UA (w.heap.size + 1) zeroU W ∧ Below w.heap.size w W) ⟨HA.out.set5 (u64 v), HR.out.setOther (by omega) _, below_set HB.out _ _ _ (Nat.le_refl _)⟩ ?_
    clear HA HR HB c5 f5
    rintro Z ⟨hA, hR, hB⟩
    have HA := Lib.hid hA
    have HR := Lib.hid hR
    have HB := Lib.hid hB
    clear hA hR hB
    generalize hV : ({ u with s := u64 v } : Up) = V at *
    have HVV := Lib.hid hV
    clear hV
    refine wp_region_lit ?_
    refine wpList_load_row rfl 30 (.tmp 4) rfl w.heap.size rfl 30 _ (0, 0) _ HA.out.row Try.underlying30 rfl (up_size _) ?_
    refine wpList_store_row rfl 30 (.tmp 8) (.tmp 45) rfl (w.heap.size + 1) V.cells.toArray rfl rfl 30 _ HR.out.row (up_size _) rfl (all_oneCell_toArray V.cells_one) ?_
    go_wp2_with fail
    exact bodyPost_ret (v := upV V) (results_cell_row rfl _ _ (w.heap.size + 1) 30 _ (0, 0) _ rfl (setRow_heap _ _ _ _ _ _ HR.out.row) Try.underlying30 rfl (up_size _)) rfl ⟨by rw [← HVV.out], below_setRow HB.out (by omega)⟩
  · have hw2 : IntKind.u64.wrap (bits .and .i64 v 1) = u64 (bits .and .i64 v 1) := by rw [IntKind.wrap_u64]; rfl
    have hw3 : IntKind.u64.wrap (2305843009213693950 + u64 (bits .and .i64 v 1)) = u64 (2305843009213693950 + u64 (bits .and .i64 v 1)) := by rw [IntKind.wrap_u64]; rfl
    have hB : bentU u what v s = { u with key := u64 (2305843009213693950 + u64 (bits .and .i64 v 1)) } := by
      unfold bentU
      rw [e]
      simp only [reduceIte, Int.reduceEq]
    rw [hB]
    clear hB
    go_enter Try.func13, Try.ntmps13
    go_upto_region 1 with fail
    rw [up_zero]
    refine wp_world (fun W => UA w.heap.size u W ∧ UA (w.heap.size + 1) zeroU W ∧ Below w.heap.size w W) ⟨(UA.new u w).alloc _, by rw [show w.heap.size + 1 = (w.alloc (.cells u.cells.toArray 30)).heap.size by simp]; exact UA.new zeroU _, bl_alloc (bl_alloc (Below.refl _ _) _) _⟩ ?_
    rintro W ⟨hA, hR, hB⟩
    have HA := Lib.hid hA
    have HR := Lib.hid hR
    have HB := Lib.hid hB
    have c2 := hA.c2
    have f2 := frozen_of_row _ _ 2 _ _ hA.row
    clear hA hR hB
    go_upto_region 15 with fail
    refine wp_world (fun W => UA w.heap.size { u with key := u64 (2305843009213693950 + u64 (bits .and .i64 v 1)) } W ∧ UA (w.heap.size + 1) zeroU W ∧ Below w.heap.size w W) ⟨HA.out.set2 (u64 (2305843009213693950 + u64 (bits .and .i64 v 1))), HR.out.setOther (by omega) _, below_set HB.out _ _ _ (Nat.le_refl _)⟩ ?_
    clear HA HR HB c2 f2
    rintro Z ⟨hA, hR, hB⟩
    have HA := Lib.hid hA
    have HR := Lib.hid hR
    have HB := Lib.hid hB
    clear hA hR hB
    generalize hV : ({ u with key := u64 (2305843009213693950 + u64 (bits .and .i64 v 1)) } : Up) = V at *
    have HVV := Lib.hid hV
    clear hV
    refine wp_region_lit ?_
    refine wpList_load_row rfl 30 (.tmp 4) rfl w.heap.size rfl 30 _ (0, 0) _ HA.out.row Try.underlying30 rfl (up_size _) ?_
    refine wpList_store_row rfl 30 (.tmp 8) (.tmp 45) rfl (w.heap.size + 1) V.cells.toArray rfl rfl 30 _ HR.out.row (up_size _) rfl (all_oneCell_toArray V.cells_one) ?_
    go_wp2_with fail
    exact bodyPost_ret (v := upV V) (results_cell_row rfl _ _ (w.heap.size + 1) 30 _ (0, 0) _ rfl (setRow_heap _ _ _ _ _ _ HR.out.row) Try.underlying30 rfl (up_size _)) rfl ⟨by rw [← HVV.out], below_setRow HB.out (by omega)⟩
end Go.Proofs.Ytjfkkcoapeipbaa
