/-
  Requests: known of their laws.
-/
import Derived.Test.YtjfkkcoapeipbaaUpD
import Derived.Test.YtjfkkcoapeipbaaUpE
namespace Go.Proofs.Ytjfkkcoapeipbaa
set_option linter.unusedVariables false
set_option linter.unusedSimpArgs false
open Go.RowKit

def uK : Up := ⟨[97], 1, 7, 1, 0, 0⟩
theorem uK_ok : uK.ok := by
  refine ⟨by decide, ?_, ?_, ?_, ?_, ?_⟩ <;> simp only [isI64, isU64, uK] <;> omega
theorem uk_right : rightU (signU 9 uK) = true := by
  show rightU { uK with r := sigR (9 % 2305843009213693950) (msgE uK.nm uK.ver uK.key), s := sigS (9 % 2305843009213693950) (msgE uK.nm uK.ver uK.key) } = true
  rfl
theorem uK_ent : entV uK.nm uK.ver uK.key = entV [97] 1 7 := rfl
theorem put_right (u : Up) (h : rightU u = true) : putUErr u = 0 ∧ putUOut u = bytesU u := by
  unfold putUErr putUOut
  rw [h]
  exact ⟨if_pos rfl, if_pos rfl⟩
theorem put_wrong (u : Up) (h : rightU u = false) : putUErr u = 23 ∧ putUOut u = [] := by
  unfold putUErr putUOut
  rw [h]
  exact ⟨if_neg (by decide), if_neg (by decide)⟩
theorem put_zeroU : putUErr zeroU = 23 := rfl
attribute [local irreducible] checkF readU bytesU rightU sigR sigS signU

set_option maxRecDepth 100000 in
set_option maxHeartbeats 3200000 in
unseal signU in
theorem signU_names (x : Int) (u : Up) : (signU x u).nm = u.nm ∧ (signU x u).ver = u.ver ∧ (signU x u).key = u.key := ⟨rfl, rfl, rfl⟩

set_option maxRecDepth 100000 in
set_option maxHeartbeats 3200000 in
theorem knownU_any (w : World) :
    Calls Try.prog 7 #[] w fun e w' => e = .returned (.bool true) ∧ Below w.heap.size w w' := by
  have hr := uk_right
  have ok := signU_ok 9 uK uK_ok
  have HK0 := Lib.hid (signU_any 9 uK)
  have hent : entV (signU 9 uK).nm (signU 9 uK).ver (signU 9 uK).key = entV [97] 1 7 := by
    obtain ⟨h1, h2, h3⟩ := signU_names 9 uK
    rw [h1, h2, h3, uK_ent]
  have hlen : (bytesU (signU 9 uK)).length = 49 := by
    rw [bytesU_length, (signU_names 9 uK).1]
    rfl
  have HRP := Lib.hid (read_putU _ ok hr)
  have hrm := read_moreU _ ok hr (byt 0)
  have HPE := Lib.hid (put_right _ hr).1
  have HPO := Lib.hid (put_right _ hr).2
  have OK := Lib.hid ok
  have HR := Lib.hid hr
  have HENT := Lib.hid hent
  clear hr ok hent
  generalize signU 9 uK = h at *
  generalize hb : bytesU h = b at *
  have hq0 : (b ++ [byt 0]).length = 50 := by rw [List.length_append, hlen]; rfl
  obtain ⟨q, hq⟩ : ∃ q, q = b ++ [byt 0] := ⟨_, rfl⟩
  rw [← hq] at hrm hq0
  have HQ := Lib.hid hq
  have HLQ := Lib.hid hq0
  have HRM := Lib.hid hrm
  have HLN := Lib.hid hlen
  clear hb hq hq0 hrm hlen
  go_enter Try.func7, Try.ntmps7
  go_wp2_with (refine wpList_built rfl 30 #[(0, .const (.string ⟨#[97]⟩)), (1, .const (.int .i64 1)), (2, .const (.int .u64 7)), (3, .const (.int .i64 1))] rfl [(0, .string ⟨[97].toArray⟩), (1, .int .i64 1), (2, .int .u64 7), (3, .int .i64 1)] (by simp only [List.map_toArray, List.map_cons, List.map_nil]; rfl) uK.cells.toArray (built_up4 [97] 1 7 1) ?_)
  refine (HK0.out _ (by omega) (by omega) uK_ok).mono ?_
  rintro e w1 ⟨rfl, hb1⟩
  have HB1 := Lib.hid hb1
  clear hb1
  go_upto_region 2 with (refine wpList_store_row rfl 30 (.tmp 1) (.tmp 11) rfl w1.heap.size h.cells.toArray rfl rfl 30 _ (heap_alloc_new _ _) (up_size _) rfl (all_oneCell_toArray h.cells_one) ?_)
  refine wp_world (fun Y => UA w1.heap.size h Y ∧ Below w.heap.size w Y) ⟨⟨setRow_heap _ _ _ _ _ _ (heap_alloc_new _ _)⟩, bl_bl HB1.out (below_fresh _ _ _)⟩ ?_
  rintro Y ⟨h1, h2⟩
  have HA1 := Lib.hid h1
  have HB := Lib.hid h2
  clear h1 h2
  refine wp_region_lit ?_
  refine wpList_load_row rfl 30 (.tmp 1) rfl w1.heap.size rfl 30 _ (0, 0) _ HA1.out.row Try.underlying30 rfl (up_size _) ?_
  go_wp2_with fail
  refine (putU_any h _ OK.out).mono ?_
  rintro e w2 ⟨v, rfl, hu, hb2⟩
  rw [HPO.out] at hu
  rw [HPE.out]
  obtain ⟨pa, pc, rfl⟩ := hu.shape
  rw [HLN.out] at hu ⊢
  have HU := Lib.hid hu
  have HA2 := Lib.hid (HA1.out.below hb2)
  have HB2 := Lib.hid (bl_bl HB.out hb2)
  clear hu hb2
  go_wp2_with fail
  refine (readU_any _ b _ HU.out (by rw [HLN.out]; decide)).mono ?_
  rintro e w3 ⟨rfl, hb3⟩
  rw [HRP.out]
  have HA3 := Lib.hid (HA2.out.below hb3)
  have HB3 := Lib.hid (bl_bl HB2.out hb3)
  have HU3 := Lib.hid (HU.out.below hb3)
  clear hb3
  go_upto_region 4 with (refine wpList_store_row rfl 30 (.tmp 4) (.tmp 20) rfl w3.heap.size h.cells.toArray rfl rfl 30 _ (heap_alloc_new _ _) (up_size _) rfl (all_oneCell_toArray h.cells_one) ?_)
  refine wp_world (fun Y => UA w1.heap.size h Y ∧ UA w3.heap.size h Y ∧ Rd Y (.slice pa 49 pc) b ∧ Below w.heap.size w Y) ⟨HA3.out.below (below_fresh _ _ _), ⟨setRow_heap _ _ _ _ _ _ (heap_alloc_new _ _)⟩, HU3.out.below (below_fresh _ _ _), bl_bl HB3.out (below_fresh _ _ _)⟩ ?_
  rintro Z ⟨h1, h4, h5, h2⟩
  clear HA1 HB HA2 HA3 HB2 HB3 HB1 HU HU3
  have HA1 := Lib.hid h1
  have HA4 := Lib.hid h4
  have HU := Lib.hid h5
  have HB := Lib.hid h2
  clear h1 h2 h4 h5
  go_wp2_with (at_builtin; refine wpList_append_nil rfl (.tmp 23) rfl rfl HU.out (by have := HLN.out; omega) ?_)
  intro v4 w4 ho hb4
  have HO4 := Lib.hid ho
  have HS4 := Lib.hid hb4.size
  have HA1' := Lib.hid (HA1.out.below hb4)
  have HA4' := Lib.hid (HA4.out.below hb4)
  have HB4 := Lib.hid (bl_bl HB.out hb4)
  obtain ⟨a4, d4, rfl⟩ := ho.rd.shape
  rw [HLN.out] at HO4 ⊢
  clear ho hb4
  go_wp2_with (at_builtin; refine wpList_append_bytes rfl (.tmp 24) (.tmp 25) rfl Z.heap.size rfl rfl (HO4.out.alloc _) (rd_one _ 0 (by omega) (by omega)) (by rw [HLN.out]; decide) (by have := HS4.out; simp; omega) ?_)
  intro v5 w5 ho hg
  rw [← HQ.out] at ho
  have HB5 := Lib.hid (below_grown (bl_alloc HB4.out _) hg (fun k hk => by have h1 := Own.row HO4.out k hk; have h2 := HB.out.size; omega))
  have HA15 := Lib.hid ((HA1'.out.alloc _).grown hg (fun e => by have h1 := Own.row HO4.out _ e; have h2 := HA1.out.lt; omega))
  have HA45 := Lib.hid ((HA4'.out.alloc _).grown hg (fun e => by have h1 := Own.row HO4.out _ e; have h2 := HA4.out.lt; omega))
  have HO5 := Lib.hid ho
  obtain ⟨a5, d5, rfl⟩ := ho.rd.shape
  rw [HLQ.out] at HO5 ⊢
  clear ho hg
  go_wp2_with fail
  refine (readU_any _ q _ HO5.out.rd (by rw [HLQ.out]; decide)).mono ?_
  rintro e w6 ⟨rfl, hb6⟩
  rw [HRM.out]
  have HA16 := Lib.hid (HA15.out.below hb6)
  have HA46 := Lib.hid (HA45.out.below hb6)
  have HB6 := Lib.hid (bl_bl HB5.out hb6)
  clear hb6
  go_upto_region 5 with (refine wpList_store_row rfl 30 (.tmp 6) (.tmp 28) rfl w6.heap.size zeroU.cells.toArray rfl rfl 30 _ (heap_alloc_new _ _) (up_size _) rfl (all_oneCell_toArray zeroU.cells_one) ?_)
  refine wp_world (fun Y => UA w1.heap.size h Y ∧ UA w3.heap.size h Y ∧ Below w.heap.size w Y) ⟨HA16.out.below (below_fresh _ _ _), HA46.out.below (below_fresh _ _ _), bl_bl HB6.out (below_fresh _ _ _)⟩ ?_
  rintro X ⟨h1, h4, h2⟩
  clear HA1 HB HA4 HA1' HA4' HB4 HA15 HA45 HB5 HO4 HO5 HS4 HA16 HA46 HB6 HU
  have HA1 := Lib.hid h1
  have HA4 := Lib.hid h4
  have HB := Lib.hid h2
  clear h1 h2 h4
  refine wp_region_lit ?_
  refine wpList_built rfl 30 #[] rfl [] (by simp) zeroU.cells.toArray built_up0 ?_
  go_wp2_with fail
  refine (putU_any zeroU _ zeroU_ok).mono ?_
  rintro e w7 ⟨v, rfl, hu, hb7⟩
  rw [put_zeroU]
  have HA17 := Lib.hid (HA1.out.below hb7)
  have HA47 := Lib.hid (HA4.out.below hb7)
  have HB7 := Lib.hid (bl_bl HB.out hb7)
  clear hu hb7
  go_wp2_with (first
    | refine wpList_load_up_g (by rfl) _ rfl w1.heap.size h rfl HA17.out ?_
    | refine wpList_load_up_g (by rfl) _ rfl w3.heap.size h rfl HA47.out ?_
    | refine wpList_eql_up_g (by rfl) _ _ _ rfl h rfl rfl OK.out ?_)
  refine (rightU_any h _).mono ?_
  rintro e w8 ⟨rfl, hb8⟩
  rw [HR.out]
  have HA18 := Lib.hid (HA17.out.below hb8)
  have HB8 := Lib.hid (bl_bl HB7.out hb8)
  clear hb8
  go_wp2_with (first
    | refine wpList_load_up_g (by rfl) _ rfl w1.heap.size h rfl HA18.out ?_)
  refine (entry_any h _).mono ?_
  rintro e w9 ⟨rfl, hb9⟩
  rw [HENT.out]
  have HB9 := Lib.hid (bl_bl HB8.out hb9)
  clear hb9
  go_wp2_with (first
    | refine wpList_eql_ent_g (by rfl) _ _ _ rfl [97] 1 7 rfl rfl (by decide) ⟨by decide, by decide⟩ ⟨by decide, by decide⟩ ?_)
  go_ret
  exact ⟨rfl, HB9.out⟩
end Go.Proofs.Ytjfkkcoapeipbaa
