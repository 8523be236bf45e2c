/-
  UpdateReads: for every input the law returns true.
-/
import Derived.Test.YtjfkkcoapeipbaaUpK
import Derived.Test.YtjfkkcoapeipbaaUpG
import Derived.Test.YtjfkkcoapeipbaaUpT
import Derived.Lib.SlBytesConst
namespace Go.Proofs.Ytjfkkcoapeipbaa
set_option linter.unusedVariables false
set_option linter.unusedSimpArgs false
open Go.RowKit
attribute [local irreducible] checkF readU bytesU seatU rightU nameL

set_option maxRecDepth 100000 in
set_option maxHeartbeats 3200000 in
theorem updateReads_walk (v : Value) (m : List UInt8) (k cl hw at_ c cut : Int) (w : World) (w0 : Rd w v m) (w1 : (Lit.int .u8 k).wf = true) (w2 : (Lit.int .u8 cl).wf = true) (w3 : (Lit.int .u8 hw).wf = true) (w4 : (Lit.int .u16 at_).wf = true) (w5 : (Lit.int .u8 c).wf = true) (w6 : (Lit.int .u8 cut).wf = true) :
    Calls Try.prog 3 #[v, .int .u8 k, .int .u8 cl, .int .u8 hw, .int .u16 at_, .int .u8 c, .int .u8 cut] w fun e w' => e = .returned (.bool true) ∧ Below w.heap.size w w' := by
  obtain ⟨k0, k1⟩ := bounds_u8 w1
  obtain ⟨cl0, cl1⟩ := bounds_u8 w2
  obtain ⟨hw0, hw1⟩ := bounds_u8 w3
  obtain ⟨at0, at1⟩ := bounds_u16 w4
  obtain ⟨c0, c1⟩ := bounds_u8 w5
  obtain ⟨cu0, cu1⟩ := bounds_u8 w6
  obtain ⟨p, cp, rfl⟩ := w0.shape
  have HM := Lib.hid w0
  by_cases hl : 200 < m.length
  · have hl' : (200 : Int) < (m.length : Int) := by omega
    clear w0 w1 w2 w3 w4 w5 w6
    go_enter Try.func3, Try.ntmps3
    go_wp2_with fail
    refine (knownU_any _).mono ?_
    rintro e w2 ⟨rfl, hb⟩
    have HB := Lib.hid hb
    clear hb
    go_wp2_with fail
    go_ret
    exact ⟨rfl, HB.out⟩
  have hl' : ¬ ((200 : Int) < (m.length : Int)) := by omega
  have HML := Lib.hid (show m.length ≤ 200 by omega)
  obtain ⟨nl0, nl1⟩ := nameL_len k
  have HNM := Lib.hid (fun w => name_any k w k0 (by omega))
  have HUP := Lib.hid (fun w => seatUpd_any (nameL k) 1 cl hw w (by omega) (by omega) (by omega) cl0 (by omega) hw0 (by omega))
  have ok := seatU_ok (nameL k) 1 cl hw (by omega) (by omega) (by omega) cl0
  have hlen := bytesU_length (seatU (nameL k) 1 cl hw)
  rw [seatU_nm] at hlen
  have HBY := Lib.hid (fun w => rbytesU_any (seatU (nameL k) 1 cl hw) w ok)
  generalize seatU (nameL k) 1 cl hw = u at *
  generalize bytesU u = b at *
  generalize nameL k = nm at *
  obtain ⟨N, hN⟩ : ∃ N : Nat, N = b.length := ⟨_, rfl⟩
  have hN1 : 49 ≤ N := by omega
  have hN2 : N ≤ 80 := by omega
  have HLN := Lib.hid hN.symm
  clear hlen hN w0 w1 w2 w3 w4 w5 w6 nl0 nl1 ok
  go_enter Try.func3, Try.ntmps3
  go_wp2_with fail
  refine (knownU_any _).mono ?_
  rintro e w1 ⟨rfl, hb0⟩
  have HB1 := Lib.hid hb0
  clear hb0
  go_wp2_with fail
  refine (HNM.out _).mono ?_
  rintro e w2 ⟨rfl, hb2⟩
  have HB2 := Lib.hid (bl_bl HB1.out hb2)
  clear hb2
  go_wp2_with fail
  refine (HUP.out _).mono ?_
  rintro e w2' ⟨rfl, hb2⟩
  have HB2' := Lib.hid (bl_bl HB2.out hb2)
  clear hb2
  go_wp2_with fail
  refine (HBY.out _).mono ?_
  rintro e w3 ⟨u3, rfl, hu, hb3⟩
  obtain ⟨ba, bc, rfl⟩ := hu.rd.shape
  have HU := Lib.hid hu.rd
  have HB3 := Lib.hid (bl_bl HB2'.out hb3)
  clear hu hb3
  rw [HLN.out] at HU ⊢
  go_upto_region 6 with fail
  go_wp2_with (at_builtin; refine wpList_append_nil rfl (.tmp 34) rfl rfl HU.out (by rw [HLN.out]; omega) ?_)
  intro v4 w4 ho hb4
  have HB4 := Lib.hid (bl_bl HB3.out hb4)
  have HB34 := Lib.hid hb4
  have HM3 := Lib.hid (HM.out.below HB3.out)
  have HU3 := Lib.hid HU.out
  have HU4 := Lib.hid (HU.out.below hb4)
  have HM4 := Lib.hid (HM.out.below HB4.out)
  obtain ⟨da, dc, rfl⟩ := ho.rd.shape
  have HO := Lib.hid ho
  clear ho hb4 HU
  rw [HLN.out] at HO ⊢
  obtain ⟨g4, cur, hda, hg34, hrow, hcap, hcs, htk⟩ : ∃ g cur, da = some ⟨g, 0, none⟩ ∧ w3.heap.size ≤ g ∧ w4.heap[g]? = some (.cells cur 5 (0, 0)) ∧ N ≤ dc ∧ cur.size = dc ∧ cur.toList.take N = bvs b := by
    rcases HO.out.2 with ⟨h, hn⟩ | ⟨g, cap, cur, he, hb, hg, hnc, hcm, hcs, htake⟩
    · rw [HLN.out] at hn; omega
    · simp only [Value.slice.injEq] at he
      obtain ⟨rfl, _, rfl⟩ := he
      rw [HLN.out] at hnc htake
      exact ⟨g, cur, rfl, hb, hg, hnc, by rw [hcs, Nat.mul_one], by rw [← htake, Nat.mul_one]⟩
  subst hda
  have HG34 := Lib.hid hg34
  have HROW := Lib.hid hrow
  have HTK := Lib.hid htk
  have HLEN := Lib.hid hcs
  clear hg34 hrow htk hcs
  have hNz : (N : Int) ≠ 0 := by omega
  obtain ⟨j, hj⟩ : ∃ j : Nat, at_.tmod (N : Int) = (j : Int) := ⟨(at_.tmod (N : Int)).toNat, by have h1 := Int.tmod_nonneg (N : Int) at0; omega⟩
  have hjN : j < N := by have h1 := Int.tmod_lt_of_pos at_ (show (0 : Int) < (N : Int) by omega); omega
  have hj5 : (j : Int) < (N : Int) := by omega
  have hj0 : (0 : Int) ≤ (j : Int) := by omega
  obtain ⟨n, hn⟩ : ∃ n : Nat, 512 - (N : Int) + c % 3 = (n : Int) := ⟨(512 - (N : Int) + c % 3).toNat, by omega⟩
  have hn0 : 0 < n := by omega
  have hn9 : n < 470 := by omega
  have hwa : IntKind.i64.wrap (512 - (N : Int)) = 512 - (N : Int) := by rw [IntKind.wrap_i64]; omega
  have hwb : IntKind.i64.wrap (512 - (N : Int) + c % 3) = (n : Int) := by rw [IntKind.wrap_i64]; omega
  have hwc : IntKind.i64.wrap (c % 3) = c % 3 := by rw [IntKind.wrap_i64]; omega
  have HJ := Lib.hid hj
  have HN := Lib.hid hn
  have HWA := Lib.hid hwa
  have HWB := Lib.hid hwb
  have HNZ := Lib.hid hNz
  clear hj hn hwa hwb hNz
  have hk : cut % 4 = 0 ∨ cut % 4 = 1 ∨ cut % 4 = 2 ∨ cut % 4 = 3 := by omega
  go_upto_block 0 with fail
  go_cut [16, 37] (fun s16 s37 wx => ∃ d : List UInt8, Rd wx s16 d ∧ d.length ≤ 1000 ∧ Rd wx (.slice ba N bc) b ∧ Rd wx (.slice p m.length cp) m ∧ Below w.heap.size w wx)
  case first =>
    rcases hk with hk | hk | hk | hk
    · have hj := HJ.out
      have hNz := HNZ.out
      obtain ⟨y, hy⟩ : ∃ y : UInt8, w4.cell? ⟨g4, j, none⟩ = some (.int .u8 (y.toNat : Int)) := by
        have hjb : j < b.length := by rw [HLN.out]; omega
        refine ⟨b[j], ?_⟩
        rw [cell_of_row _ _ _ _ _ _ HROW.out]
        have h1 : (cur.toList.take N)[j]? = some (bv b[j]) := by rw [HTK.out]; exact bvs_get _ _ hjb
        rw [List.getElem?_take_of_lt (by omega)] at h1
        simpa [bv] using h1
      have hf := frozen_of_row _ _ j _ _ HROW.out
      generalize (y.toNat : Int) = yy at hy
      go_wp2_with fail
      go_meet
      have hz := bounds_u8 (wf_bits .xor .u8 yy c)
      have hb5 := below_set HB34.out g4 j (.int .u8 (bits .xor .u8 yy c)) HG34.out
      have hr := HO.out.rd
      rw [show N = b.length from HLN.out.symm] at hr
      have hs := rd_set hr (i := j) (by rw [HLN.out]; omega) (byt (bits .xor .u8 yy c))
      rw [bv_byt _ hz.1 (by omega), HLN.out] at hs
      exact ⟨_, hs, by rw [List.length_set, HLN.out]; omega, HU3.out.below hb5, HM3.out.below hb5, bl_bl HB3.out hb5⟩
    · have hj := HJ.out
      have hNz := HNZ.out
      go_wp2_with fail
      go_meet
      have hr := HO.out.rd
      rw [show N = b.length from HLN.out.symm] at hr
      exact ⟨_, hr.take j (by rw [HLN.out]; omega), by rw [List.length_take, HLN.out]; omega, HU4.out, HM4.out, HB4.out⟩
    · go_wp2_with (at_builtin; refine wpList_append_bytes rfl (.tmp 71) (.tmp 73) rfl w3.heap.size rfl rfl (Own.below HO.out (bl_alloc (Below.refl _ _) _)) (rd_one _ c (by omega) (by omega)) (by rw [HLN.out, List.length_cons, List.length_nil]; omega) (by have := HB34.out.size; simp; omega) ?_; intro v5 w5 ho5 hg5)
      go_meet
      have hb5 : Below w3.heap.size w3 w5 := below_grown (bl_alloc HB34.out _) hg5 (fun k hk => by have := HO.out.row k hk; omega)
      exact ⟨_, ho5.rd, by simp only [List.length_append, HLN.out, List.length_cons, List.length_nil]; omega, HU3.out.below hb5, HM3.out.below hb5, bl_bl HB3.out hb5⟩
    · have hn := HN.out
      have hwa := HWA.out
      have hwb := HWB.out
      go_wp2_with (at_builtin; refine wpList_append_zeros rfl (.tmp 38) (.tmp 45) rfl w3.heap.size n rfl rfl HO.out hn0 (by rw [HLN.out]; omega) HB34.out.size ?_; intro v5 w5 ho5 hg5)
      go_meet
      have hb5 : Below w3.heap.size w3 w5 := below_grown HB34.out hg5 (fun k hk => by have := HO.out.row k hk; omega)
      exact ⟨_, ho5.rd, by rw [List.length_append, HLN.out, List.length_replicate]; omega, HU3.out.below hb5, HM3.out.below hb5, bl_bl HB3.out hb5⟩
  case rest =>
    obtain ⟨d, hd, hdl, hub, hmb, hbb⟩ := hcut
    clear HM HM3 HU3 HU4 HM4 HO HROW HTK HLEN HB4 HB34 HB3 HB2 HB1 HG34
    obtain ⟨d1, d2, rfl⟩ := hd.shape
    have HD := Lib.hid hd
    have HU := Lib.hid hub
    have HM := Lib.hid hmb
    have HB := Lib.hid hbb
    have HDL := Lib.hid hdl
    clear hd hub hmb hbb hdl
    obtain ⟨w6, hw6⟩ : ∃ w6, w6 = wc := ⟨_, rfl⟩
    have hRL := rdl_three wc 22 HM.out HU.out HD.out
    have hBL := bl_alloc HB.out (.cells #[.slice p m.length cp, .slice ba N bc, .slice d1 d.length d2] 22)
    obtain ⟨LS, hLS⟩ : ∃ LS, LS = [m, b, d] := ⟨_, rfl⟩
    have hlens : ∀ i (hi : i < LS.length), (LS[i]).length ≤ 1099511627776 := by
      subst hLS
      intro i hi
      have h1 := HLN.out
      have h2 := HDL.out
      have h3 := HML.out
      match i, hi with
      | 0, _ => simp only [List.getElem_cons_zero]; omega
      | 1, _ => simp only [List.getElem_cons_succ, List.getElem_cons_zero]; omega
      | 2, _ => simp only [List.getElem_cons_succ, List.getElem_cons_zero]; omega
    have hL3 : LS.length = 3 := by rw [hLS]; rfl
    rw [← hLS] at hRL
    have HLENS := Lib.hid hlens
    have HL3 := Lib.hid hL3
    have HRL := Lib.hid hRL
    have HBL := Lib.hid hBL
    clear hlens hL3 hLS hRL hBL
    go_wp2_with fail
    go_loopw [80] (fun v80 wr => ∃ i : Nat, v80 = .int .i64 i ∧ i ≤ 3 ∧ RdL wr (.slice (some ⟨wc.heap.size, 0, none⟩) 3 3) LS ∧ Below w.heap.size w wr) (fun v80 _ => 3 - (intOf v80).toNat)
    case atStart => exact ⟨0, rfl, by omega, HRL.out, HBL.out⟩
    case round =>
      obtain ⟨i, rfl, hi, hJ, hBr⟩ := hrel
      have HJ := Lib.hid hJ
      have HBr := Lib.hid hBr
      clear hJ hBr
      by_cases hlt : i < 3
      · obtain ⟨u, y, hcell, hy, hyl⟩ : ∃ u y, wr.cell? ⟨wc.heap.size, i, none⟩ = some u ∧ Rd wr u y ∧ y.length ≤ 1099511627776 := by
          rcases HJ.out with ⟨h, _⟩ | ⟨bb, oo, cc, h, _, _, hc⟩
          · cases h
          · simp only [Value.slice.injEq, Option.some.injEq, Addr.mk.injEq, and_true] at h
            obtain ⟨⟨rfl, rfl⟩, _, rfl⟩ := h
            obtain ⟨u, h1, h2⟩ := hc i (by rw [HL3.out]; exact hlt)
            rw [Nat.zero_add] at h1
            exact ⟨u, _, h1, h2, HLENS.out i (by rw [HL3.out]; exact hlt)⟩
        obtain ⟨f1, f2, rfl⟩ := hy.shape
        have HY := Lib.hid hy
        clear hy
        have hi0 : (0 : Int) ≤ (i : Int) := by omega
        have hi3 : (i : Int) < 3 := by omega
        have OKH := Lib.hid (readU_ok y)
        have HRD := Lib.hid (fun W (h : Rd W (.slice f1 y.length f2) y) => readU_any _ y W h hyl)
        have HRR := Lib.hid (fun W (h : Rd W (.slice f1 y.length f2) y) => rreadU_any _ y W h hyl)
        unfold GivesReadU at HRD HRR
        generalize (readU y).1 = hd at *
        generalize (readU y).2 = er at *
        go_wp2_with fail
        refine (HRD.out _ HY.out).mono ?_
        rintro e w7 ⟨rfl, hb7⟩
        have HJ7 := Lib.hid (HJ.out.below hb7)
        have HY7 := Lib.hid (HY.out.below hb7)
        have HB7 := Lib.hid (bl_bl HBr.out hb7)
        clear hb7 hcell
        go_upto_region 19 with (refine wpList_store_row rfl 30 (.tmp 19) (.tmp 87) rfl w7.heap.size hd.cells.toArray rfl rfl 30 _ (heap_alloc_new _ _) (up_size _) rfl (all_oneCell_toArray hd.cells_one) ?_)
        refine wp_world (fun Y => UA w7.heap.size hd Y ∧ RdL Y (.slice (some ⟨wc.heap.size, 0, none⟩) 3 3) LS ∧ Rd Y (.slice f1 y.length f2) y ∧ Below w.heap.size w Y) ⟨⟨setRow_heap _ _ _ _ _ _ (heap_alloc_new _ _)⟩, HJ7.out.below (below_fresh _ _ _), HY7.out.below (below_fresh _ _ _), bl_bl HB7.out (below_fresh _ _ _)⟩ ?_
        rintro Y ⟨h1, h2, h3, h4⟩
        have HA1 := Lib.hid h1
        have HJ1 := Lib.hid h2
        have HY1 := Lib.hid h3
        have HB1 := Lib.hid h4
        clear h1 h2 h3 h4
        go_wp2_with fail
        refine (HRR.out _ HY1.out).mono ?_
        rintro e w8 ⟨rfl, hb8⟩
        have HA8 := Lib.hid (HA1.out.below hb8)
        have HJ8 := Lib.hid (HJ1.out.below hb8)
        have HB8 := Lib.hid (bl_bl HB1.out hb8)
        clear hb8
        go_upto_region 20 with (refine wpList_store_row rfl 30 (.tmp 21) (.tmp 92) rfl w8.heap.size hd.cells.toArray rfl rfl 30 _ (heap_alloc_new _ _) (up_size _) rfl (all_oneCell_toArray hd.cells_one) ?_)
        refine wp_world (fun Z => UA w7.heap.size hd Z ∧ UA w8.heap.size hd Z ∧ RdL Z (.slice (some ⟨wc.heap.size, 0, none⟩) 3 3) LS ∧ Below w.heap.size w Z) ⟨HA8.out.below (below_fresh _ _ _), ⟨setRow_heap _ _ _ _ _ _ (heap_alloc_new _ _)⟩, HJ8.out.below (below_fresh _ _ _), bl_bl HB8.out (below_fresh _ _ _)⟩ ?_
        rintro Z ⟨h1, h2, h3, h4⟩
        have HAA := Lib.hid h1
        have HAB := Lib.hid h2
        have HJ9 := Lib.hid h3
        have HB9 := Lib.hid h4
        clear h1 h2 h3 h4
        go_wp2_with (first
          | refine wpList_load_up_g (by rfl) (.tmp 19) rfl w7.heap.size hd rfl HAA.out ?_
          | refine wpList_load_up_g (by rfl) (.tmp 21) rfl w8.heap.size hd rfl HAB.out ?_
          | refine wpList_neq_up_g (by rfl) (.tmp 98) (.tmp 99) _ rfl hd rfl rfl OKH.out ?_)
        go_roundw
        case rel => exact ⟨i + 1, by go_num, by omega, HJ9.out, HB9.out⟩
        case measure => simp [intOf]; omega
      · obtain rfl : i = 3 := by omega
        go_wp2_with fail
        go_ret
        exact ⟨rfl, HBr.out⟩
end Go.Proofs.Ytjfkkcoapeipbaa
