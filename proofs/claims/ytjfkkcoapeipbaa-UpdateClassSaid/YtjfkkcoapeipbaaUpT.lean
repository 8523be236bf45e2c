/-
  Keys and requests of few numbers.
-/
import Derived.Test.YtjfkkcoapeipbaaUpS
namespace Go.Proofs.Ytjfkkcoapeipbaa
set_option linter.unusedVariables false
set_option linter.unusedSimpArgs false
open Go.RowKit

def keyF (nm : List UInt8) (v : Int) (alt : Bool) : Int := pubF (secF nm v alt)
theorem keyF_bd (nm : List UInt8) (v : Int) (alt : Bool) : isU64 (keyF nm v alt) := by
  obtain ⟨h0, h1⟩ := pubF_bd (secF nm v alt)
  exact ⟨h0, by unfold keyF; omega⟩
theorem UA.set2 {g : Nat} {u : Up} {w : World} (k : UA g u w) (x : Int) : UA g { u with key := x } (w.setCell ⟨g, 2, none⟩ (.int .u64 x)) := by
  refine ⟨?_⟩
  rw [heap_setCell_same _ _ _ _ _ _ k.row]
  rfl
theorem UA.set3 {g : Nat} {u : Up} {w : World} (k : UA g u w) (x : Int) : UA g { u with cls := x } (w.setCell ⟨g, 3, none⟩ (.int .i64 x)) := by
  refine ⟨?_⟩
  rw [heap_setCell_same _ _ _ _ _ _ k.row]
  rfl
theorem UA.setOther {g k o : Nat} {u : Up} {w : World} (h : UA g u w) (hk : k ≠ g) (x : Value) : UA g u (w.setCell ⟨k, o, none⟩ x) := ⟨by rw [heap_far _ _ _ _ _ hk]; exact h.row⟩
theorem UA.setRowOther {g k : Nat} {u : Up} {w : World} (h : UA g u w) (hk : k ≠ g) (cs : Array Value) : UA g u (w.setRow k cs) := ⟨by rw [setRow_other _ _ _ _ (fun e => hk e.symm)]; exact h.row⟩

set_option maxRecDepth 100000 in
set_option maxHeartbeats 3200000 in
theorem key_any (nm : List UInt8) (v : Int) (alt : Bool) (w : World) (hn : nm.length ≤ 1048576) :
    Calls Try.prog 24 #[.string ⟨nm.toArray⟩, .int .i64 v, .bool alt] w fun e w' => e = .returned (.int .u64 (keyF nm v alt)) ∧ Dr w w' := by
  have hs := secF_bd nm v alt
  have HK := Lib.hid (secret_any nm v alt w hn)
  unfold keyF
  generalize secF nm v alt = x at *
  obtain ⟨x0, x1⟩ := hs
  go_enter Try.func24, Try.ntmps24
  go_wp2_with fail
  refine HK.out.mono ?_
  rintro e _ ⟨rfl, rfl⟩
  go_wp2_with fail
  refine (rpublic_any x _ x0 x1).mono ?_
  rintro e w1 ⟨rfl, hd⟩
  go_wp2_with fail
  go_ret
  exact ⟨rfl, hd⟩

/-- A request of few numbers. -/
def seatBy (nm : List UInt8) (v how : Int) : Int :=
  if how % 8 = 5 then u64 (secF nm (max (v - 1) 1) (decide (how % 8 = 6) && decide (v = 1)) + 3) else secF nm (max (v - 1) 1) (decide (how % 8 = 6) && decide (v = 1))
def seatU (nm : List UInt8) (v cls how : Int) : Up :=
  if how % 8 = 7 then { signU (seatBy nm v how) ⟨nm, v, keyF nm v (decide (how % 8 = 6)), cls % 2, 0, 0⟩ with cls := 5 } else signU (seatBy nm v how) ⟨nm, v, keyF nm v (decide (how % 8 = 6)), cls % 2, 0, 0⟩
theorem seatBy_bd (nm : List UInt8) (v how : Int) : isU64 (seatBy nm v how) := by
  unfold seatBy; split
  · exact u64_bd _
  · exact secF_bd _ _ _
theorem seatU_ok (nm : List UInt8) (v cls how : Int) (hn : nm.length ≤ 1048576) (h0 : 1 ≤ v) (h1 : v ≤ 1073741824) (c0 : 0 ≤ cls) : (seatU nm v cls how).ok := by
  have k : (signU (seatBy nm v how) ⟨nm, v, keyF nm v (decide (how % 8 = 6)), cls % 2, 0, 0⟩).ok := by
    refine signU_ok _ _ ⟨hn, ?_, keyF_bd _ _ _, ?_, ?_, ?_⟩ <;> simp only [isI64, isU64] <;> omega
  unfold seatU
  split
  · exact ⟨k.nm, k.ver, k.key, (by simp only [isI64]; omega), k.r, k.s⟩
  · exact k
theorem seatU_nm (nm : List UInt8) (v cls how : Int) : (seatU nm v cls how).nm = nm := by unfold seatU; split <;> rfl

set_option maxRecDepth 100000 in
set_option maxHeartbeats 3200000 in
theorem seatUpd_any (nm : List UInt8) (v cls how : Int) (w : World) (hn : nm.length ≤ 1048576) (h0 : 1 ≤ v) (h1 : v ≤ 1073741824) (c0 : 0 ≤ cls) (c1 : cls < 256) (k0 : 0 ≤ how) (k1 : how < 256) :
    Calls Try.prog 9 #[.string ⟨nm.toArray⟩, .int .i64 v, .int .u8 cls, .int .u8 how] w fun e w' => e = .returned (upV (seatU nm v cls how)) ∧ Below w.heap.size w w' := by
  have hw1 : IntKind.i64.wrap (v - 1) = v - 1 := by rw [IntKind.wrap_i64]; omega
  have HN := Lib.hid hn
  have HV := Lib.hid (show isI64 v from ⟨by omega, by omega⟩)
  clear hn
  have hkb := keyF_bd nm v (decide (how % 8 = 6))
  have HKEY := Lib.hid (fun w => key_any nm v (decide (how % 8 = 6)) w HN.out)
  have hS : seatU nm v cls how = if how % 8 = 7 then { signU (seatBy nm v how) ⟨nm, v, keyF nm v (decide (how % 8 = 6)), cls % 2, 0, 0⟩ with cls := 5 } else signU (seatBy nm v how) ⟨nm, v, keyF nm v (decide (how % 8 = 6)), cls % 2, 0, 0⟩ := rfl
  rw [hS]
  clear hS
  have hby := seatBy_bd nm v how
  have hB : seatBy nm v how = if how % 8 = 5 then u64 (secF nm (max (v - 1) 1) (decide (how % 8 = 6) && decide (v = 1)) + 3) else secF nm (max (v - 1) 1) (decide (how % 8 = 6) && decide (v = 1)) := rfl
  generalize seatBy nm v how = B at *
  generalize keyF nm v (decide (how % 8 = 6)) = key at *
  have hok : (Up.mk nm v key (cls % 2) 0 0).ok := by
    refine ⟨HN.out, HV.out, hkb, ?_, ?_, ?_⟩ <;> simp only [isI64, isU64] <;> omega
  have HOK := Lib.hid hok
  clear hok hkb
  have HBB := Lib.hid hB
  have HBY := Lib.hid hby
  clear hB hby
  go_enter Try.func9, Try.ntmps9
  go_upto_region 1 with fail
  rw [up_zero]
  refine wp_world (fun W => UA w.heap.size zeroU W ∧ Below w.heap.size w W) ⟨UA.new zeroU w, bl_alloc (Below.refl _ _) _⟩ ?_
  rintro W ⟨hA, hB⟩
  have HA1 := Lib.hid hA
  have HB1 := Lib.hid hB
  have hlt : w.heap.size < W.heap.size := hA.lt
  clear hA hB
  go_upto_region 2 with (first
    | refine wpList_built rfl 30 #[(0, .tmp 11), (1, .tmp 12), (3, .tmp 15)] rfl [(0, .string ⟨nm.toArray⟩), (1, .int .i64 v), (3, .int .i64 (cls % 2))] (by simp only [List.map_toArray, List.map_cons, List.map_nil]; rfl) (Up.mk nm v 0 (cls % 2) 0 0).cells.toArray (built_up3 _ _ _) ?_
    | refine wpList_store_row rfl 30 (.tmp 9) (.tmp 16) rfl W.heap.size (Up.mk nm v 0 (cls % 2) 0 0).cells.toArray rfl rfl 30 _ (heap_alloc_new _ _) (up_size _) rfl (all_oneCell_toArray (Up.cells_one _)) ?_)
  refine wp_world (fun Y => UA w.heap.size zeroU Y ∧ UA W.heap.size (Up.mk nm v 0 (cls % 2) 0 0) Y ∧ Below w.heap.size w Y) ⟨HA1.out.below (below_fresh _ _ _), ⟨setRow_heap _ _ _ _ _ _ (heap_alloc_new _ _)⟩, bl_bl HB1.out (below_fresh _ _ _)⟩ ?_
  clear HA1 HB1
  generalize W.heap.size = g at hlt ⊢
  clear W
  rintro W ⟨hA, hG, hB⟩
  have HA1 := Lib.hid hA
  have HG1 := Lib.hid hG
  have HB1 := Lib.hid hB
  have HLT := Lib.hid hlt
  clear hA hB hG hlt
  (try simp only [Act.put, List.setIfInBounds_toArray, List.set_cons_zero, List.set_cons_succ])
  go_wp2_with fail
  refine (HKEY.out _).mono ?_
  rintro e w1 ⟨rfl, hd⟩
  have HA2 := Lib.hid (HA1.out.below (hd.below _))
  have HG2 := Lib.hid (HG1.out.below (hd.below _))
  have HB2 := Lib.hid (bl_dr HB1.out hd)
  clear hd
  have c2 := HG2.out.c2
  have f2 := frozen_of_row _ _ 2 _ _ HG2.out.row
  go_upto_region 3 with fail
  refine wp_world (fun Z => UA w.heap.size zeroU Z ∧ UA g (Up.mk nm v key (cls % 2) 0 0) Z ∧ Below w.heap.size w Z) ⟨HA2.out.setOther (by have := HLT.out; omega) _, HG2.out.set2 _, below_set HB2.out _ _ _ (by have := HLT.out; omega)⟩ ?_
  clear HA2 HG2 HB2 HA1 HG1 HB1 c2 f2 W w1 HKEY
  rintro W ⟨hA, hG, hB⟩
  have HA1 := Lib.hid hA
  have HG1 := Lib.hid hG
  have HB1 := Lib.hid hB
  clear hA hG hB
  go_cut [10] (fun s10 wx => s10 = .int .u64 (secF nm (max (v - 1) 1) (decide (how % 8 = 6) && decide (v = 1))) ∧ UA w.heap.size zeroU wx ∧ UA g (Up.mk nm v key (cls % 2) 0 0) wx ∧ Below w.heap.size w wx)
  case first =>
    by_cases ev : v = 1
    · subst ev
      by_cases e6 : how % 8 = 6
      · have hm : max ((1 : Int) - 1) 1 = 1 := by omega
        have hd : (decide (how % 8 = 6) && decide (((1 : Int) : Int) = 1)) = true := by simp [e6]
        have hme : secF nm (max ((1 : Int) - 1) 1) (decide (how % 8 = 6) && decide (((1 : Int) : Int) = 1)) = secF nm 1 true := by rw [hm, hd]
        clear hm hd
        have HSEC := Lib.hid (fun w => secret_any nm 1 true w HN.out)
        generalize secF nm 1 true = sec at *
        have HME := Lib.hid hme
        clear hme
        go_wp2_with fail
        refine (HSEC.out _).mono ?_
        rintro e _ ⟨rfl, rfl⟩
        go_wp2_with fail
        go_meet
        exact ⟨by rw [HME.out], HA1.out, HG1.out, HB1.out⟩
      · have hm : max ((1 : Int) - 1) 1 = 1 := by omega
        have hd : (decide (how % 8 = 6) && decide (((1 : Int) : Int) = 1)) = false := by simp [e6]
        have hme : secF nm (max ((1 : Int) - 1) 1) (decide (how % 8 = 6) && decide (((1 : Int) : Int) = 1)) = secF nm 1 false := by rw [hm, hd]
        clear hm hd
        have HSEC := Lib.hid (fun w => secret_any nm 1 false w HN.out)
        generalize secF nm 1 false = sec at *
        have HME := Lib.hid hme
        clear hme
        go_wp2_with fail
        refine (HSEC.out _).mono ?_
        rintro e _ ⟨rfl, rfl⟩
        go_wp2_with fail
        go_meet
        exact ⟨by rw [HME.out], HA1.out, HG1.out, HB1.out⟩
    by_cases e2 : v = 2
    · subst e2
      by_cases e6 : how % 8 = 6
      · have hm : max ((2 : Int) - 1) 1 = 1 := by omega
        have hd : (decide (how % 8 = 6) && decide (((2 : Int) : Int) = 1)) = false := by simp [e6]
        have hme : secF nm (max ((2 : Int) - 1) 1) (decide (how % 8 = 6) && decide (((2 : Int) : Int) = 1)) = secF nm 1 false := by rw [hm, hd]
        clear hm hd
        have HSEC := Lib.hid (fun w => secret_any nm 1 false w HN.out)
        generalize secF nm 1 false = sec at *
        have HME := Lib.hid hme
        clear hme
        go_wp2_with fail
        refine (HSEC.out _).mono ?_
        rintro e _ ⟨rfl, rfl⟩
        go_wp2_with fail
        go_meet
        exact ⟨by rw [HME.out], HA1.out, HG1.out, HB1.out⟩
      · have hm : max ((2 : Int) - 1) 1 = 1 := by omega
        have hd : (decide (how % 8 = 6) && decide (((2 : Int) : Int) = 1)) = false := by simp [e6]
        have hme : secF nm (max ((2 : Int) - 1) 1) (decide (how % 8 = 6) && decide (((2 : Int) : Int) = 1)) = secF nm 1 false := by rw [hm, hd]
        clear hm hd
        have HSEC := Lib.hid (fun w => secret_any nm 1 false w HN.out)
        generalize secF nm 1 false = sec at *
        have HME := Lib.hid hme
        clear hme
        go_wp2_with fail
        refine (HSEC.out _).mono ?_
        rintro e _ ⟨rfl, rfl⟩
        go_wp2_with fail
        go_meet
        exact ⟨by rw [HME.out], HA1.out, HG1.out, HB1.out⟩
    have hvb : (v == 1) = false := by simp [ev]
    have hm1 : 1 ≤ v - 1 := by omega
    have hm2 : ¬ (v - 1 ≤ 1) := by omega
    have hm3 : ¬ (v - 1 < 1) := by omega
    have hm4 : 1 < v - 1 := by omega
    by_cases e6 : how % 8 = 6
    · have hm : max (v - 1) 1 = (v - 1) := by omega
      have hd : (decide (how % 8 = 6) && decide ((v : Int) = 1)) = false := by simp [e6, ev]
      have hme : secF nm (max (v - 1) 1) (decide (how % 8 = 6) && decide ((v : Int) = 1)) = secF nm (v - 1) false := by rw [hm, hd]
      clear hm hd
      have HSEC := Lib.hid (fun w => secret_any nm (v - 1) false w HN.out)
      generalize secF nm (v - 1) false = sec at *
      have HME := Lib.hid hme
      clear hme
      go_wp2_with fail
      refine (HSEC.out _).mono ?_
      rintro e _ ⟨rfl, rfl⟩
      go_wp2_with fail
      go_meet
      exact ⟨by rw [HME.out], HA1.out, HG1.out, HB1.out⟩
    · have hm : max (v - 1) 1 = (v - 1) := by omega
      have hd : (decide (how % 8 = 6) && decide ((v : Int) = 1)) = false := by simp [e6, ev]
      have hme : secF nm (max (v - 1) 1) (decide (how % 8 = 6) && decide ((v : Int) = 1)) = secF nm (v - 1) false := by rw [hm, hd]
      clear hm hd
      have HSEC := Lib.hid (fun w => secret_any nm (v - 1) false w HN.out)
      generalize secF nm (v - 1) false = sec at *
      have HME := Lib.hid hme
      clear hme
      go_wp2_with fail
      refine (HSEC.out _).mono ?_
      rintro e _ ⟨rfl, rfl⟩
      go_wp2_with fail
      go_meet
      exact ⟨by rw [HME.out], HA1.out, HG1.out, HB1.out⟩
  case rest =>
    obtain ⟨rfl, hA, hG, hB⟩ := hcut
    clear HA1 HG1 HB1
    have HA1 := Lib.hid hA
    have HG1 := Lib.hid hG
    have HB1 := Lib.hid hB
    clear hA hG hB
    by_cases e5 : how % 8 = 5
    · have e7 : ¬ (how % 8 = 7) := by omega
      have hB := HBB.out
      rw [if_pos e5] at hB
      have hw3 : IntKind.u64.wrap (secF nm (max (v - 1) 1) (decide (how % 8 = 6) && decide (v = 1)) + 3) = B := by rw [IntKind.wrap_u64, hB]; rfl
      clear hB
      generalize secF nm (max (v - 1) 1) (decide (how % 8 = 6) && decide (v = 1)) = sec at *
      go_wp2_with (refine wpList_load_row rfl 30 (.tmp 9) rfl g rfl 30 _ (0, 0) _ HG1.out.row Try.underlying30 rfl (up_size _) ?_)
      refine (rsignU_any B ⟨nm, v, key, cls % 2, 0, 0⟩ _ HBY.out.1 HBY.out.2 HOK.out).mono ?_
      rintro e w2 ⟨rfl, hb⟩
      generalize hU : signU B ⟨nm, v, key, cls % 2, 0, 0⟩ = U at *
      have HU := Lib.hid hU
      clear hU
      have HA2 := Lib.hid (HA1.out.below hb)
      have HG2 := Lib.hid (HG1.out.below hb)
      have HB2 := Lib.hid (bl_bl HB1.out hb)
      clear hb HA1 HG1 HB1
      go_upto_region 7 with (refine wpList_store_row rfl 30 (.tmp 9) (.tmp 43) rfl g U.cells.toArray rfl rfl 30 _ HG2.out.row (up_size _) rfl (all_oneCell_toArray U.cells_one) ?_)
      refine wp_world (fun Z => UA w.heap.size zeroU Z ∧ UA g U Z ∧ Below w.heap.size w Z) ⟨HA2.out.setRowOther (by have := HLT.out; omega) _, ⟨setRow_heap _ _ _ _ _ _ HG2.out.row⟩, below_setRow HB2.out (by have := HLT.out; omega)⟩ ?_
      clear HA2 HG2 HB2
      rintro W ⟨hA, hG, hB⟩
      have HA1 := Lib.hid hA
      have HG1 := Lib.hid hG
      have HB1 := Lib.hid hB
      clear hA hG hB
      (try simp only [Act.put, List.setIfInBounds_toArray, List.set_cons_zero, List.set_cons_succ])
      go_upto_region 9 with fail
      obtain ⟨V, rfl⟩ : ∃ V, V = U := ⟨_, rfl⟩
      refine wp_region_lit ?_
      refine wpList_load_row rfl 30 (.tmp 9) rfl g rfl 30 _ (0, 0) _ HG1.out.row Try.underlying30 rfl (up_size _) ?_
      refine wpList_store_row rfl 30 (.tmp 8) (.tmp 48) rfl w.heap.size V.cells.toArray rfl rfl 30 _ HA1.out.row (up_size _) rfl (all_oneCell_toArray V.cells_one) ?_
      go_wp2_with fail
      exact bodyPost_ret (v := upV V) (results_cell_row rfl _ _ w.heap.size 30 _ (0, 0) _ rfl (setRow_heap _ _ _ _ _ _ HA1.out.row) Try.underlying30 rfl (up_size _)) rfl ⟨by rw [← HU.out]; first | done | rfl | (rw [if_neg e7]), below_setRow HB1.out (Nat.le_refl _)⟩
    have hB := HBB.out
    rw [if_neg e5] at hB
    rw [← hB]
    clear hB
    by_cases e7 : how % 8 = 7
    · go_wp2_with (refine wpList_load_row rfl 30 (.tmp 9) rfl g rfl 30 _ (0, 0) _ HG1.out.row Try.underlying30 rfl (up_size _) ?_)
      refine (rsignU_any B ⟨nm, v, key, cls % 2, 0, 0⟩ _ HBY.out.1 HBY.out.2 HOK.out).mono ?_
      rintro e w2 ⟨rfl, hb⟩
      generalize hU : signU B ⟨nm, v, key, cls % 2, 0, 0⟩ = U at *
      have HU := Lib.hid hU
      clear hU
      have HA2 := Lib.hid (HA1.out.below hb)
      have HG2 := Lib.hid (HG1.out.below hb)
      have HB2 := Lib.hid (bl_bl HB1.out hb)
      clear hb HA1 HG1 HB1
      go_upto_region 7 with (refine wpList_store_row rfl 30 (.tmp 9) (.tmp 43) rfl g U.cells.toArray rfl rfl 30 _ HG2.out.row (up_size _) rfl (all_oneCell_toArray U.cells_one) ?_)
      refine wp_world (fun Z => UA w.heap.size zeroU Z ∧ UA g U Z ∧ Below w.heap.size w Z) ⟨HA2.out.setRowOther (by have := HLT.out; omega) _, ⟨setRow_heap _ _ _ _ _ _ HG2.out.row⟩, below_setRow HB2.out (by have := HLT.out; omega)⟩ ?_
      clear HA2 HG2 HB2
      rintro W ⟨hA, hG, hB⟩
      have HA1 := Lib.hid hA
      have HG1 := Lib.hid hG
      have HB1 := Lib.hid hB
      clear hA hG hB
      (try simp only [Act.put, List.setIfInBounds_toArray, List.set_cons_zero, List.set_cons_succ])
      have c3 := HG1.out.c3
      have f3 := frozen_of_row _ _ 3 _ _ HG1.out.row
      go_upto_region 9 with fail
      refine wp_world (fun Z => UA w.heap.size zeroU Z ∧ UA g { U with cls := 5 } Z ∧ Below w.heap.size w Z) ⟨HA1.out.setOther (by have := HLT.out; omega) _, HG1.out.set3 _, below_set HB1.out _ _ _ (by have := HLT.out; omega)⟩ ?_
      clear HA1 HG1 HB1 c3 f3
      generalize hV : ({ U with cls := 5 } : Up) = V at *
      have HVV := Lib.hid hV
      clear hV
      rintro W ⟨hA, hG, hB⟩
      have HA1 := Lib.hid hA
      have HG1 := Lib.hid hG
      have HB1 := Lib.hid hB
      clear hA hG hB
      refine wp_region_lit ?_
      refine wpList_load_row rfl 30 (.tmp 9) rfl g rfl 30 _ (0, 0) _ HG1.out.row Try.underlying30 rfl (up_size _) ?_
      refine wpList_store_row rfl 30 (.tmp 8) (.tmp 48) rfl w.heap.size V.cells.toArray rfl rfl 30 _ HA1.out.row (up_size _) rfl (all_oneCell_toArray V.cells_one) ?_
      go_wp2_with fail
      exact bodyPost_ret (v := upV V) (results_cell_row rfl _ _ w.heap.size 30 _ (0, 0) _ rfl (setRow_heap _ _ _ _ _ _ HA1.out.row) Try.underlying30 rfl (up_size _)) rfl ⟨by rw [← HVV.out, ← HU.out]; first | done | rfl | (rw [if_pos e7]), below_setRow HB1.out (Nat.le_refl _)⟩
    go_wp2_with (refine wpList_load_row rfl 30 (.tmp 9) rfl g rfl 30 _ (0, 0) _ HG1.out.row Try.underlying30 rfl (up_size _) ?_)
    refine (rsignU_any B ⟨nm, v, key, cls % 2, 0, 0⟩ _ HBY.out.1 HBY.out.2 HOK.out).mono ?_
    rintro e w2 ⟨rfl, hb⟩
    generalize hU : signU B ⟨nm, v, key, cls % 2, 0, 0⟩ = U at *
    have HU := Lib.hid hU
    clear hU
    have HA2 := Lib.hid (HA1.out.below hb)
    have HG2 := Lib.hid (HG1.out.below hb)
    have HB2 := Lib.hid (bl_bl HB1.out hb)
    clear hb HA1 HG1 HB1
    go_upto_region 7 with (refine wpList_store_row rfl 30 (.tmp 9) (.tmp 43) rfl g U.cells.toArray rfl rfl 30 _ HG2.out.row (up_size _) rfl (all_oneCell_toArray U.cells_one) ?_)
    refine wp_world (fun Z => UA w.heap.size zeroU Z ∧ UA g U Z ∧ Below w.heap.size w Z) ⟨HA2.out.setRowOther (by have := HLT.out; omega) _, ⟨setRow_heap _ _ _ _ _ _ HG2.out.row⟩, below_setRow HB2.out (by have := HLT.out; omega)⟩ ?_
    clear HA2 HG2 HB2
    rintro W ⟨hA, hG, hB⟩
    have HA1 := Lib.hid hA
    have HG1 := Lib.hid hG
    have HB1 := Lib.hid hB
    clear hA hG hB
    (try simp only [Act.put, List.setIfInBounds_toArray, List.set_cons_zero, List.set_cons_succ])
    go_upto_region 9 with fail
    obtain ⟨V, rfl⟩ : ∃ V, V = U := ⟨_, rfl⟩
    refine wp_region_lit ?_
    refine wpList_load_row rfl 30 (.tmp 9) rfl g rfl 30 _ (0, 0) _ HG1.out.row Try.underlying30 rfl (up_size _) ?_
    refine wpList_store_row rfl 30 (.tmp 8) (.tmp 48) rfl w.heap.size V.cells.toArray rfl rfl 30 _ HA1.out.row (up_size _) rfl (all_oneCell_toArray V.cells_one) ?_
    go_wp2_with fail
    exact bodyPost_ret (v := upV V) (results_cell_row rfl _ _ w.heap.size 30 _ (0, 0) _ rfl (setRow_heap _ _ _ _ _ _ HA1.out.row) Try.underlying30 rfl (up_size _)) rfl ⟨by rw [← HU.out]; first | done | rfl | (rw [if_neg e7]), below_setRow HB1.out (Nat.le_refl _)⟩
end Go.Proofs.Ytjfkkcoapeipbaa
