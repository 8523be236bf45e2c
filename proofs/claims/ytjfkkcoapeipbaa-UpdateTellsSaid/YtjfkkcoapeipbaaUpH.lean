/-
  UpdateChain: for every input the law returns true.
-/
import Derived.Test.YtjfkkcoapeipbaaUpK
import Derived.Test.YtjfkkcoapeipbaaRowU
namespace Go.Proofs.Ytjfkkcoapeipbaa
set_option linter.unusedVariables false
set_option linter.unusedSimpArgs false
open Go.RowKit

theorem yields_neq_up {ops : Array Oper} {S : World → Prop} {op : Oper} {a : Act} (hw : Region.wanted op (yielded ops a.tmps) = true) (x y : Operand) (T : TypeId) (ho : op.op = .binOp .neq 30 x y T) (u : Up) (hx : a.eval x = upV u) (hy : a.eval y = upV u) (ok : u.ok) :
    YieldsIf Try.prog ops S op (.bool false) a :=
  .inl ⟨hw, fun w _ => by
    unfold execOp
    simp only [ho, hx, hy, Sem.run_bind, guard_up, neq_up u ok, Result.andThen_ok, Sem.run_pure]⟩
theorem chainU (n : List UInt8) (v x by_ : Int) (hn : 1 ≤ n.length) (hn2 : n.length ≤ 32) (h0 : 1 ≤ v) (h1 : v ≤ 1000) :
    (Up.mk n v (pubF x) 0 0 0).ok ∧ rightU (signU by_ ⟨n, v, pubF x, 0, 0, 0⟩) = true ∧ checkU (pubF by_) (signU by_ ⟨n, v, pubF x, 0, 0, 0⟩) = true := by
  have hk0 := pub_pos x
  have hk1 := pubF_bd x
  have hok : (Up.mk n v (pubF x) 0 0 0).ok := by
    refine ⟨Nat.le_trans hn2 (by decide), ?_, ?_, ?_, ?_, ?_⟩ <;> simp only [isI64, isU64] <;> omega
  refine ⟨hok, ?_, check_signU _ _⟩
  show (rightE n v (pubF x) && (decide ((0 : Int) = 0) || decide ((0 : Int) = 1))) = true
  have hr : rightE n v (pubF x) = true := by
    unfold rightE
    rw [decide_eq_true hn, decide_eq_true hn2, decide_eq_true h0, decide_eq_true (show v ≤ 1073741824 by omega), decide_eq_true hk0, decide_eq_true hk1.2]
    rfl
  rw [hr]
  rfl
attribute [local irreducible] checkF checkU rightU signU pubF readU bytesU

set_option maxRecDepth 100000 in
set_option maxHeartbeats 32000000 in
theorem updateChain_walk (nm : List UInt8) (v : Value) (l : List Int) (w : World) (w0 : nm.length ≤ maxLen) (w1 : RdN w v l) :
    Calls Try.prog 5 #[.string ⟨nm.toArray⟩, v] w fun e w' => e = .returned (.bool true) ∧ Below w.heap.size w w' := by
  obtain ⟨p, cp, rfl⟩ := w1.shape
  have HL := Lib.hid w1
  have hsz : (ByteArray.mk nm.toArray).size = nm.length := rfl
  by_cases hg : 32 < nm.length ∨ nm.length = 0 ∨ 12 < l.length
  · clear w1 w0
    by_cases h1 : 32 < nm.length
    · have h1' : (32 : Int) < (nm.length : Int) := by omega
      clear hg h1
      go_enter Try.func5, Try.ntmps5
      go_wp2_with fail
      refine (knownU_any _).mono ?_
      rintro e w1 ⟨rfl, hb0⟩
      have HB1 := Lib.hid hb0
      clear hb0
      go_wp2_with fail
      go_ret
      exact ⟨rfl, HB1.out⟩
    by_cases h2 : nm.length = 0
    · have h1' : ¬ ((32 : Int) < (nm.length : Int)) := by omega
      have h2' : (nm.length : Int) = 0 := by omega
      clear hg h1
      go_enter Try.func5, Try.ntmps5
      go_wp2_with fail
      refine (knownU_any _).mono ?_
      rintro e w1 ⟨rfl, hb0⟩
      have HB1 := Lib.hid hb0
      clear hb0
      go_wp2_with fail
      go_ret
      exact ⟨rfl, HB1.out⟩
    have h1' : ¬ ((32 : Int) < (nm.length : Int)) := by omega
    have h2' : ¬ ((nm.length : Int) = 0) := by omega
    have h3' : (12 : Int) < (l.length : Int) := by omega
    clear hg h1
    go_enter Try.func5, Try.ntmps5
    go_wp2_with fail
    refine (knownU_any _).mono ?_
    rintro e w1 ⟨rfl, hb0⟩
    have HB1 := Lib.hid hb0
    clear hb0
    go_wp2_with fail
    go_ret
    exact ⟨rfl, HB1.out⟩
  have n0 : 1 ≤ nm.length := by omega
  have n1 : nm.length ≤ 32 := by omega
  have l1 : l.length ≤ 12 := by omega
  have h1' : decide ((32 : Int) < (nm.length : Int)) = false := decide_eq_false (by omega)
  have h2' : ((nm.length : Int) == 0) = false := beq_false_of_ne (by omega)
  have h3' : decide ((12 : Int) < (l.length : Int)) = false := decide_eq_false (by omega)
  have HN := Lib.hid (show 1 ≤ nm.length ∧ nm.length ≤ 32 from ⟨n0, n1⟩)
  have HL1 := Lib.hid l1
  clear hg w0 w1 n0 n1 l1
  go_enter Try.func5, Try.ntmps5
  go_wp2_with fail
  refine (knownU_any _).mono ?_
  rintro e w1 ⟨rfl, hb0⟩
  have HB1 := Lib.hid hb0
  clear hb0
  go_wp2_with fail
  go_loopw [5] (fun v5 wr => ∃ i : Nat, v5 = .int .i64 i ∧ i ≤ l.length ∧ Below w.heap.size w wr) (fun v5 _ => l.length - (intOf v5).toNat)
  case atStart => exact ⟨0, rfl, by omega, HB1.out⟩
  case round =>
    obtain ⟨i, rfl, hi, hbr⟩ := hrel
    have HB := Lib.hid hbr
    clear hbr
    have l1 := HL1.out
    obtain ⟨n0, n1⟩ := HN.out
    by_cases hlt : i < l.length
    · have hlt' : (i : Int) < (l.length : Int) := by omega
      have hi0 : (0 : Int) ≤ (i : Int) := by omega
      have HLr := Lib.hid (HL.out.below HB.out)
      have hx := HL.out.bd i hlt
      obtain ⟨bb, oo, rfl⟩ : ∃ bb oo, p = some ⟨bb, oo, none⟩ := by
        rcases HL.out with ⟨_, h⟩ | ⟨b, o, c, h, _⟩
        · rw [h] at hlt; simp at hlt
        · simp at h; exact ⟨b, o, h.1⟩
      have hcell : ∀ j (h : j < l.length), wr.cell? ⟨bb, oo + j, none⟩ = some (.int .u64 l[j]) := by
        rcases HLr.out with ⟨h, _⟩ | ⟨b, o, c, h, _, _, hc⟩
        · cases h
        · simp at h
          obtain ⟨⟨rfl, rfl⟩, rfl⟩ := h
          exact fun j h => (hc j h).1
      have HCELL := Lib.hid hcell
      clear hcell
      go_upto_region 8 with fail
      go_cut [6] (fun s6 wx => ∃ B : Int, s6 = .int .u64 B ∧ isU64 B ∧ wx = wr)
      case first =>
        by_cases hz : i = 0
        · subst hz
          have hc := HCELL.out 0 hlt
          rw [Nat.add_zero] at hc
          have hb := HL.out.bd 0 hlt
          generalize l[0] = y at hc hb
          have HBB := Lib.hid hb
          clear hb
          go_wp2_with fail
          go_meet
          exact ⟨y, rfl, HBB.out, rfl⟩
        · have hj : i - 1 < l.length := by omega
          have hc := HCELL.out (i - 1) hj
          have hb := HL.out.bd (i - 1) hj
          generalize l[i - 1] = y at hc hb
          have HBB := Lib.hid hb
          clear hb
          obtain ⟨j, rfl⟩ : ∃ j, i = j + 1 := ⟨i - 1, by omega⟩
          rw [Nat.add_sub_cancel] at hc
          have hsub : ((j + 1 : Nat) : Int) - 1 = (j : Int) := by omega
          have hsub2 : (j : Int) + 1 - 1 = (j : Int) := by omega
          have hwj : IntKind.i64.wrap (j : Int) = (j : Int) := by rw [IntKind.wrap_i64]; omega
          have hmx : max (j : Int) 0 = (j : Int) := by omega
          have hjl : (j : Int) < (l.length : Int) := by omega
          go_wp2_with fail
          go_meet
          exact ⟨y, rfl, HBB.out, rfl⟩
      case rest =>
        obtain ⟨B, rfl, hB, hwc⟩ := hcut
        subst hwc
        have HBY := Lib.hid hB
        have hci := HCELL.out i hlt
        generalize l[i] = x at hx hci
        obtain ⟨x0, x1⟩ := hx
        obtain ⟨ok0, hr, hck⟩ := chainU nm ((i : Int) + 1) x B n0 n1 (by omega) (by omega)
        obtain ⟨hp0, hp1⟩ := pubF_bd x
        have HSG := Lib.hid (fun w => signU_any B ⟨nm, (i : Int) + 1, pubF x, 0, 0, 0⟩ w hB.1 hB.2 ok0)
        have OK0 := Lib.hid ok0
        have oku := signU_ok B _ ok0
        generalize signU B ⟨nm, (i : Int) + 1, pubF x, 0, 0, 0⟩ = u at *
        have HRP := Lib.hid (read_putU _ oku hr)
        have HPE := Lib.hid (put_right u hr).1
        have HPO := Lib.hid (put_right u hr).2
        have OKU := Lib.hid oku
        have HCK := Lib.hid hck
        have hbl := bytesU_length u
        have hbn := oku.nm
        have HBL := Lib.hid (show (bytesU u).length ≤ 1099511627776 by omega)
        generalize bytesU u = b at *
        have hwi : IntKind.i64.wrap ((i : Int) + 1) = (i : Int) + 1 := by rw [IntKind.wrap_i64]; omega
        clear hB ok0 oku hr hck hbl hbn
        go_wp2_with fail
        refine (rpublic_any x _ x0 x1).mono ?_
        rintro e w2 ⟨rfl, hd⟩
        have HB2 := Lib.hid (bl_dr HB.out hd)
        clear hd
        generalize pubF x = px at *
        go_wp2_with (refine wpList_built rfl 30 #[(0, .tmp 40), (1, .tmp 42), (2, .tmp 47)] rfl [(0, .string ⟨nm.toArray⟩), (1, .int .i64 ((i : Int) + 1)), (2, .int .u64 px)] (by simp only [List.map_toArray, List.map_cons, List.map_nil]; rfl) (Up.mk nm ((i : Int) + 1) px 0 0 0).cells.toArray (built_up3k _ _ _) ?_)
        refine (HSG.out _).mono ?_
        rintro e w3 ⟨rfl, hb⟩
        have HB3 := Lib.hid (bl_bl HB2.out hb)
        clear hb
        go_upto_region 10 with (refine wpList_store_row rfl 30 (.tmp 7) (.tmp 49) rfl w3.heap.size u.cells.toArray rfl rfl 30 _ (heap_alloc_new _ _) (up_size _) rfl (all_oneCell_toArray u.cells_one) ?_)
        refine wp_world (fun Y => UA w3.heap.size u Y ∧ Below w.heap.size w Y) ⟨⟨setRow_heap _ _ _ _ _ _ (heap_alloc_new _ _)⟩, bl_bl HB3.out (below_fresh _ _ _)⟩ ?_
        generalize w3.heap.size = g7
        clear HB3 HB2 HB
        rintro Y ⟨h1, h2⟩
        have HA7 := Lib.hid h1
        have HB := Lib.hid h2
        clear h1 h2
        (try simp only [Act.put, List.setIfInBounds_toArray, List.set_cons_zero, List.set_cons_succ])
        refine wp_region_lit ?_
        refine wpList_load_row rfl 30 (.tmp 7) rfl g7 rfl 30 _ (0, 0) _ HA7.out.row Try.underlying30 rfl (up_size _) ?_
        go_wp2_with fail
        refine (putU_any u _ OKU.out).mono ?_
        rintro e w4 ⟨v4, rfl, hu, hb⟩
        rw [HPO.out] at hu
        rw [HPE.out]
        obtain ⟨pa, pc, rfl⟩ := hu.shape
        have HU := Lib.hid hu
        have HA7' := Lib.hid (HA7.out.below hb)
        have HB4 := Lib.hid (bl_bl HB.out hb)
        clear hu hb
        go_wp2_with fail
        refine (readU_any _ b _ HU.out HBL.out).mono ?_
        rintro e w5 ⟨rfl, hb⟩
        rw [HRP.out]
        have HA75 := Lib.hid (HA7'.out.below hb)
        have HB5 := Lib.hid (bl_bl HB4.out hb)
        clear hb
        go_upto_region 12 with (refine wpList_store_row rfl 30 (.tmp 10) (.tmp 58) rfl w5.heap.size u.cells.toArray rfl rfl 30 _ (heap_alloc_new _ _) (up_size _) rfl (all_oneCell_toArray u.cells_one) ?_)
        refine wp_world (fun Y => UA g7 u Y ∧ UA w5.heap.size u Y ∧ Below w.heap.size w Y) ⟨HA75.out.below (below_fresh _ _ _), ⟨setRow_heap _ _ _ _ _ _ (heap_alloc_new _ _)⟩, bl_bl HB5.out (below_fresh _ _ _)⟩ ?_
        generalize w5.heap.size = g10
        clear HA7 HB HA7' HB4 HA75 HB5
        rintro W ⟨h1, h3, h2⟩
        have HA7 := Lib.hid h1
        have HA10 := Lib.hid h3
        have HB := Lib.hid h2
        clear h1 h2 h3
        (try simp only [Act.put, List.setIfInBounds_toArray, List.set_cons_zero, List.set_cons_succ])
        refine wp_region_noPanic ?_
        refine wp_region_held_drew (S := (fun w' => UA g7 u w' ∧ UA g10 u w')) (by kernel_rfl) ?_ (fun hHeld => ?_)
        · (try dsimp only); (refine ⟨?_, ?_⟩ <;> repeat (first | exact HA7.out | exact HA10.out | apply UA.drew | apply UA.drewN | apply UA.alloc))
        refine wpAnyH_take (i := 0) (v := ?_) (by simp only [List.getElem?_toArray, List.getElem?_cons_succ, List.getElem?_cons_zero]; first | done | rfl) (by kernel_rfl) (by kernel_rfl) (by kernel_rfl) (fun _ _ _ h => h) (Or.inl ⟨by rfl, ?hy⟩) (by assumption) ?_
        case hy => (intro w hSw; (try dsimp only at hSw); go_simp; all_goals with_reducible rfl)
        try simp only [Act.put, List.setIfInBounds_toArray, List.set_cons_zero, List.set_cons_succ]
        refine wpAnyH_take (i := 1) (v := ?_) (by simp only [List.getElem?_toArray, List.getElem?_cons_succ, List.getElem?_cons_zero]; first | done | rfl) (by kernel_rfl) (by kernel_rfl) (by kernel_rfl) (fun _ _ _ h => h) (Or.inl ⟨by rfl, ?hy⟩) (by assumption) ?_
        case hy => (intro w hSw; (try dsimp only at hSw); go_simp; all_goals with_reducible rfl)
        try simp only [Act.put, List.setIfInBounds_toArray, List.set_cons_zero, List.set_cons_succ]
        refine wpAnyH_take (i := 2) (v := ?_) (by simp only [List.getElem?_toArray, List.getElem?_cons_succ, List.getElem?_cons_zero]; first | done | rfl) (by kernel_rfl) (by kernel_rfl) (by kernel_rfl) (fun _ _ _ h => h) (Or.inl ⟨by rfl, ?hy⟩) (by assumption) ?_
        case hy => (intro w hSw; (try dsimp only at hSw); go_simp; all_goals with_reducible rfl)
        try simp only [Act.put, List.setIfInBounds_toArray, List.set_cons_zero, List.set_cons_succ]
        refine wpAnyH_take (i := 3) (v := ?_) (by simp only [List.getElem?_toArray, List.getElem?_cons_succ, List.getElem?_cons_zero]; first | done | rfl) (by kernel_rfl) (by kernel_rfl) (by kernel_rfl) (fun _ _ _ h => h) (Or.inl ⟨by rfl, ?hy⟩) (by assumption) ?_
        case hy => (intro w hSw; (try dsimp only at hSw); go_simp; all_goals with_reducible rfl)
        try simp only [Act.put, List.setIfInBounds_toArray, List.set_cons_zero, List.set_cons_succ]
        refine wpAnyH_take (i := 4) (v := ?_) (by simp only [List.getElem?_toArray, List.getElem?_cons_succ, List.getElem?_cons_zero]; first | done | rfl) (by kernel_rfl) (by kernel_rfl) (by kernel_rfl) (fun _ _ _ h => h) (Or.inl ⟨by rfl, ?hy⟩) (by assumption) ?_
        case hy => (intro w hSw; (try dsimp only at hSw); go_simp; all_goals with_reducible rfl)
        try simp only [Act.put, List.setIfInBounds_toArray, List.set_cons_zero, List.set_cons_succ]
        refine wpAnyH_take (i := 5) (v := ?_) (by simp only [List.getElem?_toArray, List.getElem?_cons_succ, List.getElem?_cons_zero]; first | done | rfl) (by kernel_rfl) (by kernel_rfl) (by kernel_rfl) (fun _ _ _ h => h) (Or.inl ⟨by rfl, ?hy⟩) (by assumption) ?_
        case hy => (intro w hSw; (try dsimp only at hSw); go_simp; all_goals with_reducible rfl)
        try simp only [Act.put, List.setIfInBounds_toArray, List.set_cons_zero, List.set_cons_succ]
        refine wpAnyH_take (i := 6) (v := ?_) (by simp only [List.getElem?_toArray, List.getElem?_cons_succ, List.getElem?_cons_zero]; first | done | rfl) (by kernel_rfl) (by kernel_rfl) (by kernel_rfl) (fun _ _ _ h => h) (Or.inl ⟨by rfl, ?hy⟩) (by assumption) ?_
        case hy => (intro w hSw; (try dsimp only at hSw); go_simp; all_goals with_reducible rfl)
        try simp only [Act.put, List.setIfInBounds_toArray, List.set_cons_zero, List.set_cons_succ]
        refine wpAnyH_take (i := 7) (by simp only [List.getElem?_toArray, List.getElem?_cons_succ, List.getElem?_cons_zero]; first | done | rfl) (by kernel_rfl) (by kernel_rfl) (by kernel_rfl) (fun _ _ _ h => h) (yields_up (by rfl) _ rfl g10 u rfl (fun w hw => hw.2)) (by assumption) ?_
        try simp only [Act.put, List.setIfInBounds_toArray, List.set_cons_zero, List.set_cons_succ]
        refine wpAnyH_take (i := 8) (by simp only [List.getElem?_toArray, List.getElem?_cons_succ, List.getElem?_cons_zero]; first | done | rfl) (by kernel_rfl) (by kernel_rfl) (by kernel_rfl) (fun _ _ _ h => h) (yields_up (by rfl) _ rfl g7 u rfl (fun w hw => hw.1)) (by assumption) ?_
        try simp only [Act.put, List.setIfInBounds_toArray, List.set_cons_zero, List.set_cons_succ]
        refine wpAnyH_take (i := 9) (by simp only [List.getElem?_toArray, List.getElem?_cons_succ, List.getElem?_cons_zero]; first | done | rfl) (by kernel_rfl) (by kernel_rfl) (by kernel_rfl) (fun _ _ _ h => h) (yields_neq_up (by rfl) _ _ _ rfl u rfl rfl OKU.out) (by assumption) ?_
        try simp only [Act.put, List.setIfInBounds_toArray, List.set_cons_zero, List.set_cons_succ]
        refine wpAnyH_take (i := 10) (v := ?_) (by simp only [List.getElem?_toArray, List.getElem?_cons_succ, List.getElem?_cons_zero]; first | done | rfl) (by kernel_rfl) (by kernel_rfl) (by kernel_rfl) (fun _ _ _ h => h) (Or.inl ⟨by rfl, ?hy⟩) (by assumption) ?_
        case hy => (intro w hSw; (try dsimp only at hSw); go_simp; all_goals with_reducible rfl)
        try simp only [Act.put, List.setIfInBounds_toArray, List.set_cons_zero, List.set_cons_succ]
        refine wpAnyH_take (i := 11) (v := ?_) (by simp only [List.getElem?_toArray, List.getElem?_cons_succ, List.getElem?_cons_zero]; first | done | rfl) (by kernel_rfl) (by kernel_rfl) (by kernel_rfl) (fun _ _ _ h => h) (Or.inl ⟨by rfl, ?hy⟩) (by assumption) ?_
        case hy => (intro w hSw; (try dsimp only at hSw); go_simp; all_goals with_reducible rfl)
        try simp only [Act.put, List.setIfInBounds_toArray, List.set_cons_zero, List.set_cons_succ]
        refine wpAnyH_take (i := 12) (by simp only [List.getElem?_toArray, List.getElem?_cons_succ, List.getElem?_cons_zero]; first | done | rfl) (by kernel_rfl) (by kernel_rfl) (by kernel_rfl) (fun _ _ _ h => h) (yields_up (by rfl) _ rfl g10 u rfl (fun w hw => hw.2)) (by assumption) ?_
        try simp only [Act.put, List.setIfInBounds_toArray, List.set_cons_zero, List.set_cons_succ]
        refine wpAnyH_take (i := 13) (v := ?_) (by simp only [List.getElem?_toArray, List.getElem?_cons_succ, List.getElem?_cons_zero]; first | done | rfl) (by kernel_rfl) (by kernel_rfl) (by kernel_rfl) (fun _ _ _ h => h) (Or.inl ⟨by rfl, ?hy⟩) (by assumption) ?_
        case hy => (intro w hSw; (try dsimp only at hSw); go_simp; all_goals with_reducible rfl)
        try simp only [Act.put, List.setIfInBounds_toArray, List.set_cons_zero, List.set_cons_succ]
        refine wpAnyH_ready (rs := [14]) (by kernel_rfl) (by simp) ?_
        refine AllReadyH.cons (by simp only [List.getElem?_toArray, List.getElem?_cons_succ, List.getElem?_cons_zero]; first | done | rfl) (fun K hK => ?_) ?_
        · skip
          refine step_call (by rfl) (rpublic_any B _ HBY.out.1 HBY.out.2) (by go_simp) ?_
          rintro e v2 ⟨rfl, hd⟩
          refine ⟨_, rfl, ?_⟩
          have hb2 := fun B => Dr.below hd B
          clear hd
          have HA7' := Lib.hid (UA.below (by repeat (first | exact HA7.out | apply UA.drew | apply UA.drewN | apply UA.alloc)) (hb2 _))
          have HA10' := Lib.hid (UA.below (by repeat (first | exact HA10.out | apply UA.drew | apply UA.drewN | apply UA.alloc)) (hb2 _))
          have HB' := Lib.hid (bl_bl (by repeat (first | exact HB.out | apply bl_drew | apply bl_drewN | apply bl_alloc)) (hb2 _))
          clear hb2
          have HA7 := HA7'
          have HA10 := HA10'
          have HB := HB'
          clear HA7' HA10' HB'
          refine hK.out _ _ ?_ (fun hHeld => ?_)
          · (try dsimp only); (refine ⟨?_, ?_⟩ <;> repeat (first | exact HA7.out | exact HA10.out | apply UA.drew | apply UA.drewN | apply UA.alloc))
          clear hK K
          try simp only [Act.put, List.setIfInBounds_toArray, List.set_cons_zero, List.set_cons_succ]
          refine wpAnyH_ready (rs := [15]) (by kernel_rfl) (by simp) ?_
          refine AllReadyH.cons (by simp only [List.getElem?_toArray, List.getElem?_cons_succ, List.getElem?_cons_zero]; first | done | rfl) (fun K hK => ?_) ?_
          · skip
            refine step_call (by rfl) (checkU_any (pubF B) u _ (pubF_bd B).1 (by have := (pubF_bd B).2; omega) OKU.out) (by go_simp) ?_
            rintro e v2 ⟨rfl, hb2⟩
            refine ⟨_, rfl, ?_⟩
            rw [HCK.out]
            have HA7' := Lib.hid (UA.below (by repeat (first | exact HA7.out | apply UA.drew | apply UA.drewN | apply UA.alloc)) hb2)
            have HA10' := Lib.hid (UA.below (by repeat (first | exact HA10.out | apply UA.drew | apply UA.drewN | apply UA.alloc)) hb2)
            have HB' := Lib.hid (bl_bl (by repeat (first | exact HB.out | apply bl_drew | apply bl_drewN | apply bl_alloc)) hb2)
            clear hb2
            have HA7 := HA7'
            have HA10 := HA10'
            have HB := HB'
            clear HA7' HA10' HB'
            refine hK.out _ _ ?_ (fun hHeld => ?_)
            · (try dsimp only); (refine ⟨?_, ?_⟩ <;> repeat (first | exact HA7.out | exact HA10.out | apply UA.drew | apply UA.drewN | apply UA.alloc))
            clear hK K
            try simp only [Act.put, List.setIfInBounds_toArray, List.set_cons_zero, List.set_cons_succ]
            refine wpAnyH_take (i := 16) (v := ?_) (by simp only [List.getElem?_toArray, List.getElem?_cons_succ, List.getElem?_cons_zero]; first | done | rfl) (by kernel_rfl) (by kernel_rfl) (by kernel_rfl) (fun _ _ _ h => h) (Or.inl ⟨by rfl, ?hy⟩) (by assumption) ?_
            case hy => (intro w hSw; (try dsimp only at hSw); go_simp; all_goals with_reducible rfl)
            try simp only [Act.put, List.setIfInBounds_toArray, List.set_cons_zero, List.set_cons_succ]
            refine wpAnyH_take (i := 17) (v := ?_) (by simp only [List.getElem?_toArray, List.getElem?_cons_succ, List.getElem?_cons_zero]; first | done | rfl) (by kernel_rfl) (by kernel_rfl) (by kernel_rfl) (fun _ _ _ h => h) (Or.inl ⟨by rfl, ?hy⟩) (by assumption) ?_
            case hy => (intro w hSw; (try dsimp only at hSw); go_simp; all_goals with_reducible rfl)
            try simp only [Act.put, List.setIfInBounds_toArray, List.set_cons_zero, List.set_cons_succ]
            refine wpAnyH_done (by kernel_rfl) ?_ _
            refine NoPanic.normal ?_
            go_wp2_with fail
            go_roundw
            case rel => exact ⟨i + 1, by go_num, by omega, HB.out⟩
            case measure => simp [intOf]; omega
          exact AllReadyH.nil
        exact AllReadyH.nil
    · obtain rfl : i = l.length := by omega
      go_wp2_with fail
      go_ret
      exact ⟨rfl, HB.out⟩
end Go.Proofs.Ytjfkkcoapeipbaa
