/-
  PromiseReads: for every input the law returns true.
-/
import Derived.Test.YtbhkcgnlegmjlaaPrX
import Derived.Test.YtbhkcgnlegmjlaaPrW
import Derived.Lib.SlBytesConst
namespace Go.Proofs.Ytbhkcgnlegmjlaa
set_option linter.unusedVariables false
set_option linter.unusedSimpArgs false
open Go.RowKit

theorem and_mask (x : Int) (m : Nat) (hm : m < 4294967296) : ∃ n : Nat, n ≤ m ∧ bits .and .i64 x (m : Int) = n := by
  have h : (BitVec.ofInt 64 x &&& BitVec.ofInt 64 (m : Int)).toNat ≤ m := by
    rw [BitVec.toNat_and, show (BitVec.ofInt 64 (m : Int)).toNat = m from ofInt_u64 m (by omega)]
    exact Nat.and_le_right
  refine ⟨_, h, ?_⟩
  show IntKind.i64.wrap ((BitVec.ofInt 64 x &&& BitVec.ofInt 64 (m : Int)).toNat : Int) = _
  rw [IntKind.wrap_i64]
  omega
theorem seatK_bd (k v : Int) (h0 : 0 ≤ k) (h1 : k < 256) (v0 : 1 ≤ v) (v1 : v ≤ 5) : seatK k v = v * 1000 + k + 1 := by
  unfold seatK u64
  omega
theorem make_seat (k v t : Int) (h0 : 0 ≤ k) (h1 : k < 256) (v0 : 1 ≤ v) (v1 : v ≤ 5) (t0 : 0 ≤ t) (t1 : t ≤ 65535) : makeErr (nameL k) v (seatK k v) t = 0 := by
  obtain ⟨n0, n1⟩ := nameL_len k
  have hr : rightE (nameL k) v (seatK k v) = true := by
    rw [seatK_bd k v h0 h1 v0 v1]
    unfold rightE
    rw [decide_eq_true n0, decide_eq_true n1, decide_eq_true v0, decide_eq_true (show v ≤ 1073741824 by omega), decide_eq_true (show 1 ≤ v * 1000 + k + 1 by omega), decide_eq_true (show v * 1000 + k + 1 < 2305843009213693951 by omega)]
    rfl
  unfold makeErr
  rw [hr, decide_eq_false (show ¬ (t < 0) by omega), decide_eq_false (show ¬ (1152921504606846976 < t) by omega), if_neg (by decide), if_neg (by omega)]
theorem signP_nm (x : Int) (p : Pr) : (signP x p).nm = p.nm := rfl
attribute [local irreducible] checkF readP bytesP rightP nameL signP seatK makeP makeErr putPErr putPOut

set_option maxRecDepth 100000 in
set_option maxHeartbeats 32000000 in
theorem promiseReads_walk (v : Value) (m : List UInt8) (k tick at_ c how : Int) (w : World) (w0 : Rd w v m) (w1 : (Lit.int .u8 k).wf = true) (w2 : (Lit.int .i64 tick).wf = true) (w3 : (Lit.int .u16 at_).wf = true) (w4 : (Lit.int .u8 c).wf = true) (w5 : (Lit.int .u8 how).wf = true) :
    Calls Try.prog 3 #[v, .int .u8 k, .int .i64 tick, .int .u16 at_, .int .u8 c, .int .u8 how] w fun e w' => e = .returned (.bool true) ∧ Below w.heap.size w w' := by
  obtain ⟨k0, k1⟩ := bounds_u8 w1
  obtain ⟨at0, at1⟩ := bounds_u16 w3
  obtain ⟨c0, c1⟩ := bounds_u8 w4
  obtain ⟨ho0, ho1⟩ := bounds_u8 w5
  obtain ⟨p, cp, rfl⟩ := w0.shape
  have HM := Lib.hid w0
  by_cases hl : 200 < m.length
  · have hl' : (200 : Int) < (m.length : Int) := by omega
    clear w0 w1 w2 w3 w4 w5
    go_enter Try.func3, Try.ntmps3
    go_wp2_with fail
    refine (knownP_any _).mono ?_
    rintro e w2 ⟨rfl, hb⟩
    have HB := Lib.hid hb
    clear hb
    go_wp2_with fail
    go_ret
    exact ⟨rfl, HB.out⟩
  have hl' : ¬ ((200 : Int) < (m.length : Int)) := by omega
  have HML := Lib.hid (show m.length ≤ 200 by omega)
  obtain ⟨nl0, nl1⟩ := nameL_len k
  obtain ⟨q, hq⟩ : ∃ q : Int, q = k % 5 + 1 := ⟨_, rfl⟩
  have hwq : IntKind.i64.wrap (k % 5 + 1) = q := by rw [IntKind.wrap_i64]; omega
  obtain ⟨tn, htn, hand⟩ := and_mask tick 65535 (by decide)
  have hand' : bits .and .i64 tick 65535 = (tn : Int) := hand
  have hkb : isU64 (seatK k q) := by rw [seatK_bd k q k0 (by omega) (by omega) (by omega)]; exact ⟨by omega, by omega⟩
  have hqi : isI64 q := ⟨by omega, by omega⟩
  have hti : isI64 (tn : Int) := ⟨by omega, by omega⟩
  have HEN := Lib.hid (fun w => seatEnt_any k q w k0 (by omega))
  have hme := make_seat k q (tn : Int) k0 (by omega) (by omega) (by omega) (by omega) (by omega)
  have HMK := Lib.hid (fun w => rmakeP_any 5 (nameL k) q (seatK k q) (tn : Int) w (by omega) (by omega) (by omega) hqi hkb hti)
  have hmp := make_ok (x := 5) hme
  have ok := makeP_ok 5 (nameL k) q (seatK k q) (tn : Int) (by omega) hqi hkb
  rw [hmp] at ok
  have hr : rightP (signP 5 (freshP (nameL k) q (seatK k q) (tn : Int))) = true := by rw [rightP_sign]; exact rightP_make _ _ _ _ hme
  have hlen := bytesP_length (signP 5 (freshP (nameL k) q (seatK k q) (tn : Int)))
  rw [signP_nm] at hlen
  have hlen' : (bytesP (signP 5 (freshP (nameL k) q (seatK k q) (tn : Int)))).length = (nameL k).length + 57 := hlen
  have HPU := Lib.hid (fun w => rputP_any (signP 5 (freshP (nameL k) q (seatK k q) (tn : Int))) w ok)
  have HPE := Lib.hid (put_rightP _ hr).1
  have HPO := Lib.hid (put_rightP _ hr).2
  have HME := Lib.hid hme
  have HMP := Lib.hid hmp
  clear hme hmp hr hlen
  generalize signP 5 (freshP (nameL k) q (seatK k q) (tn : Int)) = P at *
  generalize bytesP P = b at *
  generalize nameL k = nm at *
  generalize seatK k q = key at *
  obtain ⟨N, hN⟩ : ∃ N : Nat, N = b.length := ⟨_, rfl⟩
  have hN1 : 49 ≤ N := by omega
  have hN2 : N ≤ 89 := by omega
  have HLN := Lib.hid hN.symm
  clear hlen' hN w0 w1 w2 w3 w4 w5 nl0 nl1 ok hand hq hkb hqi hti
  go_enter Try.func3, Try.ntmps3
  go_wp2_with fail
  refine (knownP_any _).mono ?_
  rintro e w1 ⟨rfl, hb0⟩
  have HB1 := Lib.hid hb0
  clear hb0
  go_wp2_with fail
  refine (HEN.out _).mono ?_
  rintro e w2 ⟨rfl, hb2⟩
  have HB2 := Lib.hid (bl_bl HB1.out hb2)
  clear hb2
  go_wp2_with fail
  refine (HMK.out _).mono ?_
  rintro e w2' ⟨rfl, hb2⟩
  rw [HMP.out, HME.out]
  have HB2' := Lib.hid (bl_bl HB2.out hb2)
  clear hb2
  go_upto_region 6 with (refine wpList_store_row rfl 31 (.tmp 13) (.tmp 39) rfl w2'.heap.size P.cells.toArray rfl rfl 31 _ (heap_alloc_new _ _) (pr_size _) rfl (all_oneCell_toArray P.cells_one) ?_)
  refine wp_world (fun Y => PA w2'.heap.size P Y ∧ Below w.heap.size w Y) ⟨⟨setRow_heap _ _ _ _ _ _ (heap_alloc_new _ _)⟩, bl_bl HB2'.out (below_fresh _ _ _)⟩ ?_
  generalize w2'.heap.size = g13
  clear HB2'
  rintro Y ⟨h1, h2⟩
  have HP := Lib.hid h1
  have HB2' := Lib.hid h2
  clear h1 h2
  (try simp only [Act.put, List.setIfInBounds_toArray, List.set_cons_zero, List.set_cons_succ])
  go_wp2_with (refine wpList_load_pr_g (by rfl) (.tmp 13) rfl g13 P rfl HP.out ?_)
  refine (HPU.out _).mono ?_
  rintro e w3 ⟨u3, rfl, hu, hb3⟩
  rw [HPO.out] at hu
  rw [HPE.out]
  obtain ⟨ba, bc, rfl⟩ := hu.shape
  have HU := Lib.hid hu
  have HB3 := Lib.hid (bl_bl HB2'.out hb3)
  clear hu hb3
  rw [HLN.out] at HU ⊢
  go_upto_region 7 with fail
  go_wp2_with (at_builtin; refine wpList_append_nil rfl (.tmp 46) rfl rfl HU.out (by rw [HLN.out]; omega) ?_)
  intro v4 w4 ho hb4
  have HB4 := Lib.hid (bl_bl HB3.out hb4)
  have HB34 := Lib.hid hb4
  have HM3 := Lib.hid (HM.out.below HB3.out)
  have HU3 := Lib.hid HU.out
  have HU4 := Lib.hid (HU.out.below hb4)
  have HM4 := Lib.hid (HM.out.below HB4.out)
  obtain ⟨da, dc, rfl⟩ := ho.rd.shape
  have HO := Lib.hid ho
  clear ho hb4 HU
  rw [HLN.out] at HO ⊢
  obtain ⟨g4, cur, hda, hg34, hrow, hcap, hcs, htk⟩ : ∃ g cur, da = some ⟨g, 0, none⟩ ∧ w3.heap.size ≤ g ∧ w4.heap[g]? = some (.cells cur 5 (0, 0)) ∧ N ≤ dc ∧ cur.size = dc ∧ cur.toList.take N = bvs b := by
    rcases HO.out.2 with ⟨h, hn⟩ | ⟨g, cap, cur, he, hb, hg, hnc, hcm, hcs, htake⟩
    · rw [HLN.out] at hn; omega
    · simp only [Value.slice.injEq] at he
      obtain ⟨rfl, _, rfl⟩ := he
      rw [HLN.out] at hnc htake
      exact ⟨g, cur, rfl, hb, hg, hnc, by rw [hcs, Nat.mul_one], by rw [← htake, Nat.mul_one]⟩
  subst hda
  have HG34 := Lib.hid hg34
  have HROW := Lib.hid hrow
  have HTK := Lib.hid htk
  have HLEN := Lib.hid hcs
  clear hg34 hrow htk hcs
  have hNz : (N : Int) ≠ 0 := by omega
  obtain ⟨j, hj⟩ : ∃ j : Nat, at_.tmod (N : Int) = (j : Int) := ⟨(at_.tmod (N : Int)).toNat, by have h1 := Int.tmod_nonneg (N : Int) at0; omega⟩
  have hjN : j < N := by have h1 := Int.tmod_lt_of_pos at_ (show (0 : Int) < (N : Int) by omega); omega
  have hj5 : (j : Int) < (N : Int) := by omega
  have hj0 : (0 : Int) ≤ (j : Int) := by omega
  obtain ⟨n, hn⟩ : ∃ n : Nat, 512 - (N : Int) + c % 3 = (n : Int) := ⟨(512 - (N : Int) + c % 3).toNat, by omega⟩
  have hn0 : 0 < n := by omega
  have hn9 : n < 470 := by omega
  have hwa : IntKind.i64.wrap (512 - (N : Int)) = 512 - (N : Int) := by rw [IntKind.wrap_i64]; omega
  have hwb : IntKind.i64.wrap (512 - (N : Int) + c % 3) = (n : Int) := by rw [IntKind.wrap_i64]; omega
  have hwc : IntKind.i64.wrap (c % 3) = c % 3 := by rw [IntKind.wrap_i64]; omega
  have HJ := Lib.hid hj
  have HN := Lib.hid hn
  have HWA := Lib.hid hwa
  have HWB := Lib.hid hwb
  have HNZ := Lib.hid hNz
  clear hj hn hwa hwb hNz
  have hk : how % 5 = 0 ∨ how % 5 = 1 ∨ how % 5 = 2 ∨ how % 5 = 3 ∨ how % 5 = 4 := by omega
  go_upto_block 0 with fail
  go_cut [17, 49] (fun s17 s49 wx => ∃ d : List UInt8, Rd wx s17 d ∧ d.length ≤ 1000 ∧ Rd wx (.slice ba N bc) b ∧ Rd wx (.slice p m.length cp) m ∧ Below w.heap.size w wx)
  case first =>
    rcases hk with hk | hk | hk | hk | hk
    · have hj := HJ.out
      have hNz := HNZ.out
      obtain ⟨y, hy⟩ : ∃ y : UInt8, w4.cell? ⟨g4, j, none⟩ = some (.int .u8 (y.toNat : Int)) := by
        have hjb : j < b.length := by rw [HLN.out]; omega
        refine ⟨b[j], ?_⟩
        rw [cell_of_row _ _ _ _ _ _ HROW.out]
        have h1 : (cur.toList.take N)[j]? = some (bv b[j]) := by rw [HTK.out]; exact bvs_get _ _ hjb
        rw [List.getElem?_take_of_lt (by omega)] at h1
        simpa [bv] using h1
      have hf := frozen_of_row _ _ j _ _ HROW.out
      generalize (y.toNat : Int) = yy at hy
      go_wp2_with fail
      go_meet
      have hz := bounds_u8 (wf_bits .xor .u8 yy c)
      have hb5 := below_set HB34.out g4 j (.int .u8 (bits .xor .u8 yy c)) HG34.out
      have hr := HO.out.rd
      rw [show N = b.length from HLN.out.symm] at hr
      have hs := rd_set hr (i := j) (by rw [HLN.out]; omega) (byt (bits .xor .u8 yy c))
      rw [bv_byt _ hz.1 (by omega), HLN.out] at hs
      exact ⟨_, hs, by rw [List.length_set, HLN.out]; omega, HU3.out.below hb5, HM3.out.below hb5, bl_bl HB3.out hb5⟩
    · have hj := HJ.out
      have hNz := HNZ.out
      go_wp2_with fail
      go_meet
      have hr := HO.out.rd
      rw [show N = b.length from HLN.out.symm] at hr
      exact ⟨_, hr.take j (by rw [HLN.out]; omega), by rw [List.length_take, HLN.out]; omega, HU4.out, HM4.out, HB4.out⟩
    · go_wp2_with (at_builtin; refine wpList_append_bytes rfl (.tmp 83) (.tmp 85) rfl w3.heap.size rfl rfl (Own.below HO.out (bl_alloc (Below.refl _ _) _)) (rd_one _ c (by omega) (by omega)) (by rw [HLN.out, List.length_cons, List.length_nil]; omega) (by have := HB34.out.size; simp; omega) ?_; intro v5 w5 ho5 hg5)
      go_meet
      have hb5 : Below w3.heap.size w3 w5 := below_grown (bl_alloc HB34.out _) hg5 (fun k hk => by have := HO.out.row k hk; omega)
      exact ⟨_, ho5.rd, by simp only [List.length_append, HLN.out, List.length_cons, List.length_nil]; omega, HU3.out.below hb5, HM3.out.below hb5, bl_bl HB3.out hb5⟩
    · have hb0 : (0 : Int) ≤ 30 + c % 5 := by omega
      have hb1 : 30 + c % 5 < 256 := by omega
      have hwm : IntKind.u8.wrap (30 + c % 5) = 30 + c % 5 := by rw [IntKind.wrap_u8]; omega
      obtain ⟨y, hy⟩ : ∃ y : UInt8, w4.cell? ⟨g4, 1, none⟩ = some (.int .u8 (y.toNat : Int)) := by
        have hjb : 1 < b.length := by rw [HLN.out]; omega
        refine ⟨b[1], ?_⟩
        rw [cell_of_row _ _ _ _ _ _ HROW.out]
        have h1 : (cur.toList.take N)[1]? = some (bv b[1]) := by rw [HTK.out]; exact bvs_get _ _ hjb
        rw [List.getElem?_take_of_lt (by omega)] at h1
        simpa [bv] using h1
      have hf := frozen_of_row _ _ 1 _ _ HROW.out
      have h1N : (1 : Int) < (N : Int) := by omega
      generalize (y.toNat : Int) = yy at hy
      go_wp2_with fail
      go_meet
      have hb5 := below_set HB34.out g4 1 (.int .u8 (30 + c % 5)) HG34.out
      have hr := HO.out.rd
      rw [show N = b.length from HLN.out.symm] at hr
      have hs := rd_set hr (i := 1) (by rw [HLN.out]; omega) (byt (30 + c % 5))
      rw [bv_byt _ hb0 hb1, HLN.out] at hs
      exact ⟨_, hs, by rw [List.length_set, HLN.out]; omega, HU3.out.below hb5, HM3.out.below hb5, bl_bl HB3.out hb5⟩
    · have hn := HN.out
      have hwa := HWA.out
      have hwb := HWB.out
      go_wp2_with (at_builtin; refine wpList_append_zeros rfl (.tmp 50) (.tmp 57) rfl w3.heap.size n rfl rfl HO.out hn0 (by rw [HLN.out]; omega) HB34.out.size ?_; intro v5 w5 ho5 hg5)
      go_meet
      have hb5 : Below w3.heap.size w3 w5 := below_grown HB34.out hg5 (fun k hk => by have := HO.out.row k hk; omega)
      exact ⟨_, ho5.rd, by rw [List.length_append, HLN.out, List.length_replicate]; omega, HU3.out.below hb5, HM3.out.below hb5, bl_bl HB3.out hb5⟩
  case rest =>
    obtain ⟨d, hd, hdl, hub, hmb, hbb⟩ := hcut
    clear HM HM3 HU3 HU4 HM4 HO HROW HTK HLEN HB4 HB34 HB3 HB2 HB1 HG34
    obtain ⟨d1, d2, rfl⟩ := hd.shape
    have HD := Lib.hid hd
    have HU := Lib.hid hub
    have HM := Lib.hid hmb
    have HB := Lib.hid hbb
    have HDL := Lib.hid hdl
    clear hd hub hmb hbb hdl
    have kc := fun (w : World) (C : Array Value) (n c : Nat) => Lib.run_convert_bytes_const (P := Try.prog) w 22 5 C n c Try.underlying22 Try.underlying5
    go_wp2_with (at_builtin; refine wpList_append_full rfl (.tmp 98) (.tmp 99) rfl (l := [80]) rfl rfl (rd_marked _ 80 (1, 2)) (HM.out.below (bl_alloc (Below.refl _ _) _)) (by have := HML.out; simp only [List.length_cons, List.length_nil]; omega) ?_; intro v6 w6 hr6 hb6; obtain ⟨e1, e2, rfl⟩ := hr6.shape; have HV6 := Lib.hid hr6; have HW6 := Lib.hid (bl_bl (bl_alloc (Below.refl wc.heap.size wc) _) hb6); clear hr6 hb6)
    have hRL := rdl_five w6 22 (HM.out.below HW6.out) (HU.out.below HW6.out) (HD.out.below HW6.out) HV6.out (Rd.nil _)
    have hBL := bl_alloc (bl_bl HB.out HW6.out) (.cells #[.slice p m.length cp, .slice ba N bc, .slice d1 d.length d2, .slice e1 ([80] ++ m).length e2, .slice none 0 0] 22)
    obtain ⟨LS, hLS⟩ : ∃ LS, LS = [m, b, d, [80] ++ m, []] := ⟨_, rfl⟩
    have hlens : ∀ i (hi : i < LS.length), (LS[i]).length ≤ 1099511627776 := by
      subst hLS
      intro i hi
      have h1 := HLN.out
      have h2 := HDL.out
      have h3 := HML.out
      match i, hi with
      | 0, _ => simp only [List.getElem_cons_zero]; omega
      | 1, _ => simp only [List.getElem_cons_succ, List.getElem_cons_zero]; omega
      | 2, _ => simp only [List.getElem_cons_succ, List.getElem_cons_zero]; omega
      | 3, _ => simp only [List.getElem_cons_succ, List.getElem_cons_zero, List.length_append, List.length_cons, List.length_nil]; omega
      | 4, _ => simp
    have hL3 : LS.length = 5 := by rw [hLS]; rfl
    rw [← hLS] at hRL
    have HLENS := Lib.hid hlens
    have HL3 := Lib.hid hL3
    have HRL := Lib.hid hRL
    have HBL := Lib.hid hBL
    clear hlens hL3 hLS hRL hBL
    go_loopw [103] (fun v103 wr => ∃ i : Nat, v103 = .int .i64 i ∧ i ≤ 5 ∧ RdL wr (.slice (some ⟨w6.heap.size, 0, none⟩) 5 5) LS ∧ Below w.heap.size w wr) (fun v103 _ => 5 - (intOf v103).toNat)
    case atStart => exact ⟨0, rfl, by omega, HRL.out, HBL.out⟩
    case round =>
      obtain ⟨i, rfl, hi, hJ, hBr⟩ := hrel
      have HJ := Lib.hid hJ
      have HBr := Lib.hid hBr
      clear hJ hBr
      by_cases hlt : i < 5
      · obtain ⟨u, y, hcell, hy, hyl⟩ : ∃ u y, wr.cell? ⟨w6.heap.size, i, none⟩ = some u ∧ Rd wr u y ∧ y.length ≤ 1099511627776 := by
          rcases HJ.out with ⟨h, _⟩ | ⟨bb, oo, cc, h, _, _, hc⟩
          · cases h
          · simp only [Value.slice.injEq, Option.some.injEq, Addr.mk.injEq, and_true] at h
            obtain ⟨⟨rfl, rfl⟩, _, rfl⟩ := h
            obtain ⟨u, h1, h2⟩ := hc i (by rw [HL3.out]; exact hlt)
            rw [Nat.zero_add] at h1
            exact ⟨u, _, h1, h2, HLENS.out i (by rw [HL3.out]; exact hlt)⟩
        obtain ⟨f1, f2, rfl⟩ := hy.shape
        have HY := Lib.hid hy
        clear hy
        have hi0 : (0 : Int) ≤ (i : Int) := by omega
        have hi3 : (i : Int) < 5 := by omega
        have OKH := Lib.hid (readP_ok y)
        have HRD := Lib.hid (fun W (h : Rd W (.slice f1 y.length f2) y) => readP_any _ y W h hyl)
        have HRR := Lib.hid (fun W (h : Rd W (.slice f1 y.length f2) y) => rreadP_any _ y W h hyl)
        unfold GivesReadP at HRD HRR
        generalize (readP y).1 = hd at *
        generalize (readP y).2 = er at *
        go_wp2_with fail
        refine (HRD.out _ HY.out).mono ?_
        rintro e w7 ⟨rfl, hb7⟩
        have HJ7 := Lib.hid (HJ.out.below hb7)
        have HY7 := Lib.hid (HY.out.below hb7)
        have HB7 := Lib.hid (bl_bl HBr.out hb7)
        clear hb7 hcell
        go_upto_region 22 with (refine wpList_store_row rfl 31 (.tmp 20) (.tmp 110) rfl w7.heap.size hd.cells.toArray rfl rfl 31 _ (heap_alloc_new _ _) (pr_size _) rfl (all_oneCell_toArray hd.cells_one) ?_)
        refine wp_world (fun Y => PA w7.heap.size hd Y ∧ RdL Y (.slice (some ⟨w6.heap.size, 0, none⟩) 5 5) LS ∧ Rd Y (.slice f1 y.length f2) y ∧ Below w.heap.size w Y) ⟨⟨setRow_heap _ _ _ _ _ _ (heap_alloc_new _ _)⟩, HJ7.out.below (below_fresh _ _ _), HY7.out.below (below_fresh _ _ _), bl_bl HB7.out (below_fresh _ _ _)⟩ ?_
        rintro Y ⟨h1, h2, h3, h4⟩
        have HA1 := Lib.hid h1
        have HJ1 := Lib.hid h2
        have HY1 := Lib.hid h3
        have HB1 := Lib.hid h4
        clear h1 h2 h3 h4
        go_wp2_with fail
        refine (HRR.out _ HY1.out).mono ?_
        rintro e w8 ⟨rfl, hb8⟩
        have HA8 := Lib.hid (HA1.out.below hb8)
        have HJ8 := Lib.hid (HJ1.out.below hb8)
        have HB8 := Lib.hid (bl_bl HB1.out hb8)
        clear hb8
        go_upto_region 23 with (refine wpList_store_row rfl 31 (.tmp 22) (.tmp 115) rfl w8.heap.size hd.cells.toArray rfl rfl 31 _ (heap_alloc_new _ _) (pr_size _) rfl (all_oneCell_toArray hd.cells_one) ?_)
        refine wp_world (fun Z => PA w7.heap.size hd Z ∧ PA w8.heap.size hd Z ∧ RdL Z (.slice (some ⟨w6.heap.size, 0, none⟩) 5 5) LS ∧ Below w.heap.size w Z) ⟨HA8.out.below (below_fresh _ _ _), ⟨setRow_heap _ _ _ _ _ _ (heap_alloc_new _ _)⟩, HJ8.out.below (below_fresh _ _ _), bl_bl HB8.out (below_fresh _ _ _)⟩ ?_
        rintro Z ⟨h1, h2, h3, h4⟩
        have HAA := Lib.hid h1
        have HAB := Lib.hid h2
        have HJ9 := Lib.hid h3
        have HB9 := Lib.hid h4
        clear h1 h2 h3 h4
        go_wp2_with (first
          | refine wpList_load_pr_g (by rfl) (.tmp 20) rfl w7.heap.size hd rfl HAA.out ?_
          | refine wpList_load_pr_g (by rfl) (.tmp 22) rfl w8.heap.size hd rfl HAB.out ?_
          | refine wpList_neq_pr_g (by rfl) (.tmp 121) (.tmp 122) _ rfl hd rfl rfl OKH.out ?_)
        go_roundw
        case rel => exact ⟨i + 1, by go_num, by omega, HJ9.out, HB9.out⟩
        case measure => simp [intOf]; omega
      · obtain rfl : i = 5 := by omega
        go_wp2_with fail
        go_ret
        exact ⟨rfl, HBr.out⟩
end Go.Proofs.Ytbhkcgnlegmjlaa
