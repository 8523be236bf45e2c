/-
  SigsTell: for every input the law returns true.
-/
import Derived.Test.YtebepjgopmaogaaSiO
namespace Go.Proofs.Ytebepjgopmaogaa
set_option linter.unusedVariables false
set_option linter.unusedSimpArgs false
open Go.RowKit
attribute [local irreducible] checkF putF

theorem rd_alloc {w : World} {v : Value} {l : List UInt8} (h : Rd w v l) (o : Obj) : Rd (w.alloc o) v l := h.below (bl_alloc (Below.refl _ _) o)
theorem conv_rd {w : World} {v : Value} {l : List UInt8} (h : Rd w v l) : (convert 23 9 v).run Try.prog w = .ok (.string ⟨l.toArray⟩) w := by
  rcases h with ⟨rfl, rfl⟩ | ⟨b, o, c, rfl, hc, hm, hcell⟩
  · exact run_convert_bytes_nil w 23 5 Try.underlying23 Try.underlying5 0 0 _ Try.underlying9
  · refine run_convert_bytes_back w _ _ _ ⟨b, o, none⟩ c l Try.underlying23 Try.underlying5 Try.underlying9 (fun j hj => ?_)
    rw [addr_add]
    exact hcell j hj
structure TellI (w wr : World) (g : Nat) (rr rs a b c : Int) : Prop where
  bel : Below w.heap.size w wr
  raw : SA w.heap.size rr rs wr
  row : wr.heap[g]? = some (.cells #[.int .u64 a, .int .u64 b, .int .u64 c] 22 (0, 0))
theorem TellI.below {w wr w' : World} {g : Nat} {rr rs a b c : Int} (h : TellI w wr g rr rs a b c) (hb : Below wr.heap.size wr w') : TellI w w' g rr rs a b c :=
  ⟨bl_bl h.bel hb, h.raw.below hb, by rw [hb.block g (Array.getElem?_eq_some_iff.1 h.row).1]; exact h.row⟩
theorem TellI.alloc {w wr : World} {g : Nat} {rr rs a b c : Int} (h : TellI w wr g rr rs a b c) (o : Obj) : TellI w (wr.alloc o) g rr rs a b c := h.below (bl_alloc (Below.refl _ _) o)
theorem TellI.drewN {w wr : World} {g : Nat} {rr rs a b c : Int} (h : TellI w wr g rr rs a b c) (n : Nat) : TellI w (wr.drewN n) g rr rs a b c := h.below (Dr.below (Dr.drewN (Dr.refl _) n) _)
theorem TellI.drew {w wr : World} {g : Nat} {rr rs a b c : Int} (h : TellI w wr g rr rs a b c) : TellI w wr.drew g rr rs a b c := h.below (Dr.below (Dr.drew (Dr.refl _)) _)

set_option maxRecDepth 100000 in
set_option maxHeartbeats 3200000 in
theorem sigsTell_walk (a : Int) (v : Value) (m : List UInt8) (y rr rs : Int) (k z : Int) (w : World) (w0 : (Lit.int .u64 a).wf = true) (w1 : Rd w v m) (w2 : (Lit.int .u64 y).wf = true) (w3 : (0 ≤ rr ∧ rr < 18446744073709551616) ∧ (0 ≤ rs ∧ rs < 18446744073709551616)) (w4 : (Lit.int .u8 k).wf = true) (w5 : (Lit.int .u64 z).wf = true) :
    Calls Try.prog 3 #[.int .u64 a, v, .int .u64 y, sigV rr rs, .int .u8 k, .int .u64 z] w fun e w' => e = .returned (.bool true) ∧ Below w.heap.size w w' := by
  obtain ⟨a0, a1⟩ := bounds_u64 w0
  obtain ⟨y0, y1⟩ := bounds_u64 w2
  obtain ⟨k0, k1⟩ := bounds_u8 w4
  obtain ⟨z0, z1⟩ := bounds_u64 w5
  obtain ⟨⟨rr0, rr1⟩, rs0, rs1⟩ := w3
  obtain ⟨p, c, rfl⟩ := w1.shape
  have HM := Lib.hid w1
  clear w1 w0 w2 w4 w5
  show Calls _ _ #[.int .u64 a, .slice p m.length c, .int .u64 y, .agg #[.int .u64 rr, .int .u64 rs], .int .u8 k, .int .u64 z] w _
  by_cases hl : 100 < m.length
  · have hl' : (100 : Int) < (m.length : Int) := by omega
    go_enter Try.func3, Try.ntmps3
    go_wp2_with fail
    refine (known_any _).mono ?_
    rintro e w2 ⟨rfl, hb⟩
    have HB := Lib.hid (bl_bl (bl_alloc (Below.refl w.heap.size w) _) hb)
    clear hb
    go_wp2_with fail
    go_ret
    exact ⟨rfl, HB.out⟩
  have hl' : ¬ ((100 : Int) < (m.length : Int)) := by omega
  go_enter Try.func3, Try.ntmps3
  go_wp2_with fail
  refine (known_any _).mono ?_
  rintro e w2 ⟨rfl, hb⟩
  have HS := Lib.hid ((SA.new rr rs w (0, 0) 25).below hb)
  have HB := Lib.hid (bl_bl (bl_alloc (Below.refl w.heap.size w) _) hb)
  clear hb
  go_wp2_with fail
  have hI : TellI w (w2.alloc (.cells #[.int .u64 a, .int .u64 (a % 1000), .int .u64 (a % 2305843009213693950)] 22)) w2.heap.size rr rs a (a % 1000) (a % 2305843009213693950) :=
    ⟨bl_alloc HB.out _, HS.out.alloc _, heap_alloc_new _ _⟩
  go_loopw [31] (fun v31 wr => ∃ i : Nat, v31 = .int .i64 i ∧ i ≤ 3 ∧ TellI w wr w2.heap.size rr rs a (a % 1000) (a % 2305843009213693950)) (fun v31 _ => 3 - (intOf v31).toNat)
  case atStart => exact ⟨0, rfl, by omega, hI⟩
  case round =>
    obtain ⟨i, rfl, hi, hJ⟩ := hrel
    have HI := Lib.hid hJ
    clear hJ hI
    by_cases hlt : i < 3
    · obtain ⟨x, hx0, hx1, hcell⟩ : ∃ x : Int, 0 ≤ x ∧ x < 18446744073709551616 ∧ wr.cell? ⟨w2.heap.size, i, none⟩ = some (.int .u64 x) := by
        have hr := HI.out.row
        obtain rfl | rfl | rfl : i = 0 ∨ i = 1 ∨ i = 2 := by omega
        · exact ⟨a, by omega, by omega, by rw [cell_of_row _ _ _ _ _ _ hr]; rfl⟩
        · exact ⟨a % 1000, by omega, by omega, by rw [cell_of_row _ _ _ _ _ _ hr]; rfl⟩
        · exact ⟨a % 2305843009213693950, by omega, by omega, by rw [cell_of_row _ _ _ _ _ _ hr]; rfl⟩
      have hi0 : (0 : Int) ≤ (i : Int) := by omega
      have hi3 : (i : Int) < 3 := by omega
      have e0 : 0 ≤ x % 2305843009213693950 := by omega
      have e1 : x % 2305843009213693950 < 2305843009213693950 := by omega
      have hC := check_own (x % 2305843009213693950) m e0 e1
      rw [pub_mod] at hC
      have hS := signV_val x m
      obtain ⟨p0, p1⟩ := pubF_bd x
      obtain ⟨r0, r1⟩ := sigR_bd (x % 2305843009213693950) m
      obtain ⟨s0, s1⟩ := sigS_bd (x % 2305843009213693950) m
      generalize hr : sigR (x % 2305843009213693950) m = r at *
      generalize hs : sigS (x % 2305843009213693950) m = s at *
      obtain ⟨q, hq⟩ : ∃ q, q = pubF x := ⟨_, rfl⟩
      rw [← hq] at p0 p1 hC
      have HC := Lib.hid hC
      have HS1 := Lib.hid hS
      have HQ := Lib.hid hq
      clear hC hS hq hr hs e0 e1
      go_wp2_with fail
      refine (sign_any x _ m _ hx0 hx1 (HM.out.below HI.out.bel) (by omega)).mono ?_
      rintro e w3 ⟨rfl, hb3⟩
      rw [HS1.out]
      have HI3 := Lib.hid (HI.out.below hb3)
      clear hb3 hcell
      go_wp2_with fail
      refine (rsign_any x _ m _ hx0 hx1 (HM.out.below (HI3.out.alloc _).bel) (by omega)).mono ?_
      rintro e w4 ⟨rfl, hb4⟩
      rw [HS1.out]
      have HI4 := Lib.hid ((HI3.out.alloc _).below hb4)
      have HS4 := Lib.hid ((SA.new r s w3 (0, 0) 25).below hb4)
      clear hb4
      go_wp2_with fail
      refine (rpublic_any x _ hx0 hx1).mono ?_
      rintro e w5 ⟨rfl, n5, rfl⟩
      rw [← HQ.out]
      go_upto_region 11 with fail
      refine wp_world (fun W => TellI w W w2.heap.size rr rs a (a % 1000) (a % 2305843009213693950) ∧ SA w3.heap.size r s W ∧ SA w4.heap.size r s W) ⟨(HI4.out.alloc _).drewN _, (HS4.out.alloc _).drewN _, (SA.new r s w4 (0, 0) 25).drewN _⟩ ?_
      rintro W ⟨h1, h2, h3⟩
      clear HI HI3 HI4 HS4
      have HI := Lib.hid h1
      have HS3 := Lib.hid h2
      have HS4 := Lib.hid h3
      clear h1 h2 h3
      go_cut [67] (fun s67 wx => s67 = .bool false ∧ TellI w wx w2.heap.size rr rs a (a % 1000) (a % 2305843009213693950) ∧ SA w4.heap.size r s wx)
      case first =>
        refine wp_region_noPanic ?_
        refine wp_region_held_drew (S := (fun w' => w'.cell? ⟨w3.heap.size, 0, none⟩ = some (.int .u64 r) ∧ w'.cell? ⟨w3.heap.size, 1, none⟩ = some (.int .u64 s) ∧ w'.cell? ⟨w4.heap.size, 0, none⟩ = some (.int .u64 r) ∧ w'.cell? ⟨w4.heap.size, 1, none⟩ = some (.int .u64 s))) (by kernel_rfl) ?_ (fun hHeld => ?_)
        · (try dsimp only); (refine SA.both ?_ ?_ <;> repeat (first | exact HS3.out | exact HS4.out | apply SA.drew | apply SA.drewN | apply SA.alloc))
        refine wpAnyH_take (i := 0) (v := ?_) (by simp only [List.getElem?_toArray, List.getElem?_cons_succ, List.getElem?_cons_zero]; first | done | rfl) (by kernel_rfl) (by kernel_rfl) (by kernel_rfl) (fun _ _ _ h => h) (Or.inl ⟨by rfl, ?hy⟩) (by assumption) ?_
        case hy => (intro w hSw; (try dsimp only at hSw); go_simp; all_goals with_reducible rfl)
        try simp only [Act.put, List.setIfInBounds_toArray, List.set_cons_zero, List.set_cons_succ]
        refine wpAnyH_take (i := 1) (v := ?_) (by simp only [List.getElem?_toArray, List.getElem?_cons_succ, List.getElem?_cons_zero]; first | done | rfl) (by kernel_rfl) (by kernel_rfl) (by kernel_rfl) (fun _ _ _ h => h) (Or.inl ⟨by rfl, ?hy⟩) (by assumption) ?_
        case hy => (intro w hSw; (try dsimp only at hSw); go_simp; all_goals with_reducible rfl)
        try simp only [Act.put, List.setIfInBounds_toArray, List.set_cons_zero, List.set_cons_succ]
        refine wpAnyH_take (i := 2) (v := ?_) (by simp only [List.getElem?_toArray, List.getElem?_cons_succ, List.getElem?_cons_zero]; first | done | rfl) (by kernel_rfl) (by kernel_rfl) (by kernel_rfl) (fun _ _ _ h => h) (Or.inl ⟨by rfl, ?hy⟩) (by assumption) ?_
        case hy => (intro w hSw; (try dsimp only at hSw); go_simp; all_goals with_reducible rfl)
        try simp only [Act.put, List.setIfInBounds_toArray, List.set_cons_zero, List.set_cons_succ]
        refine wpAnyH_take (i := 3) (v := ?_) (by simp only [List.getElem?_toArray, List.getElem?_cons_succ, List.getElem?_cons_zero]; first | done | rfl) (by kernel_rfl) (by kernel_rfl) (by kernel_rfl) (fun _ _ _ h => h) (Or.inl ⟨by rfl, ?hy⟩) (by assumption) ?_
        case hy => (intro w hSw; (try dsimp only at hSw); go_simp; all_goals with_reducible rfl)
        try simp only [Act.put, List.setIfInBounds_toArray, List.set_cons_zero, List.set_cons_succ]
        refine wpAnyH_take (i := 4) (v := ?_) (by simp only [List.getElem?_toArray, List.getElem?_cons_succ, List.getElem?_cons_zero]; first | done | rfl) (by kernel_rfl) (by kernel_rfl) (by kernel_rfl) (fun _ _ _ h => h) (Or.inl ⟨by rfl, ?hy⟩) (by assumption) ?_
        case hy => (intro w hSw; (try dsimp only at hSw); go_simp; all_goals with_reducible rfl)
        try simp only [Act.put, List.setIfInBounds_toArray, List.set_cons_zero, List.set_cons_succ]
        refine wpAnyH_take (i := 6) (v := ?_) (by simp only [List.getElem?_toArray, List.getElem?_cons_succ, List.getElem?_cons_zero]; first | done | rfl) (by kernel_rfl) (by kernel_rfl) (by kernel_rfl) (fun _ _ _ h => h) (Or.inl ⟨by rfl, ?hy⟩) (by assumption) ?_
        case hy => (intro w hSw; (try dsimp only at hSw); go_simp; all_goals with_reducible rfl)
        try simp only [Act.put, List.setIfInBounds_toArray, List.set_cons_zero, List.set_cons_succ]
        refine wpAnyH_ready (rs := [5]) (by kernel_rfl) (by simp) ?_
        refine AllReadyH.cons (by simp only [List.getElem?_toArray, List.getElem?_cons_succ, List.getElem?_cons_zero]; first | done | rfl) (fun K hK => ?_) ?_
        · go_simp
          go_at_call 12
          refine (public_any x _ hx0 hx1).mono ?_
          rintro e v2 ⟨rfl, n2, rfl⟩
          rw [← HQ.out]
          refine hK.out _ _ ?_ (fun hHeld => ?_)
          · (try dsimp only); (refine SA.both ?_ ?_ <;> repeat (first | exact HS3.out | exact HS4.out | apply SA.drew | apply SA.drewN | apply SA.alloc))
          clear hK K
          try simp only [Act.put, List.setIfInBounds_toArray, List.set_cons_zero, List.set_cons_succ]
          refine wpAnyH_take (i := 7) (v := ?_) (by simp only [List.getElem?_toArray, List.getElem?_cons_succ, List.getElem?_cons_zero]; first | done | rfl) (by kernel_rfl) (by kernel_rfl) (by kernel_rfl) (fun _ _ _ h => h) (Or.inl ⟨by rfl, ?hy⟩) (by assumption) ?_
          case hy => (intro w hSw; (try dsimp only at hSw); go_simp; all_goals with_reducible rfl)
          try simp only [Act.put, List.setIfInBounds_toArray, List.set_cons_zero, List.set_cons_succ]
          refine wpAnyH_take (i := 8) (v := ?_) (by simp only [List.getElem?_toArray, List.getElem?_cons_succ, List.getElem?_cons_zero]; first | done | rfl) (by kernel_rfl) (by kernel_rfl) (by kernel_rfl) (fun _ _ _ h => h) (Or.inl ⟨by rfl, ?hy⟩) (by assumption) ?_
          case hy => (intro w hSw; (try dsimp only at hSw); go_simp; all_goals with_reducible rfl)
          try simp only [Act.put, List.setIfInBounds_toArray, List.set_cons_zero, List.set_cons_succ]
          refine wpAnyH_take (i := 9) (v := ?_) (by simp only [List.getElem?_toArray, List.getElem?_cons_succ, List.getElem?_cons_zero]; first | done | rfl) (by kernel_rfl) (by kernel_rfl) (by kernel_rfl) (fun _ _ _ h => h) (Or.inl ⟨by rfl, ?hy⟩) (by assumption) ?_
          case hy => (intro w hSw; (try dsimp only at hSw); go_simp; all_goals with_reducible rfl)
          try simp only [Act.put, List.setIfInBounds_toArray, List.set_cons_zero, List.set_cons_succ]
          refine wpAnyH_take (i := 10) (v := ?_) (by simp only [List.getElem?_toArray, List.getElem?_cons_succ, List.getElem?_cons_zero]; first | done | rfl) (by kernel_rfl) (by kernel_rfl) (by kernel_rfl) (fun _ _ _ h => h) (Or.inl ⟨by rfl, ?hy⟩) (by assumption) ?_
          case hy => (intro w hSw; (try dsimp only at hSw); go_simp; all_goals with_reducible rfl)
          try simp only [Act.put, List.setIfInBounds_toArray, List.set_cons_zero, List.set_cons_succ]
          refine wpAnyH_take (i := 11) (v := ?_) (by simp only [List.getElem?_toArray, List.getElem?_cons_succ, List.getElem?_cons_zero]; first | done | rfl) (by kernel_rfl) (by kernel_rfl) (by kernel_rfl) (fun _ _ _ h => h) (Or.inl ⟨by rfl, ?hy⟩) (by assumption) ?_
          case hy => (intro w hSw; (try dsimp only at hSw); go_simp; all_goals with_reducible rfl)
          try simp only [Act.put, List.setIfInBounds_toArray, List.set_cons_zero, List.set_cons_succ]
          refine wpAnyH_take (i := 12) (v := ?_) (by simp only [List.getElem?_toArray, List.getElem?_cons_succ, List.getElem?_cons_zero]; first | done | rfl) (by kernel_rfl) (by kernel_rfl) (by kernel_rfl) (fun _ _ _ h => h) (Or.inl ⟨by rfl, ?hy⟩) (by assumption) ?_
          case hy => (intro w hSw; (try dsimp only at hSw); go_simp; all_goals with_reducible rfl)
          try simp only [Act.put, List.setIfInBounds_toArray, List.set_cons_zero, List.set_cons_succ]
          refine wpAnyH_ready (rs := [13]) (by kernel_rfl) (by simp) ?_
          refine AllReadyH.cons (by simp only [List.getElem?_toArray, List.getElem?_cons_succ, List.getElem?_cons_zero]; first | done | rfl) (fun K hK => ?_) ?_
          · go_simp
            go_at_call 13
            refine (check_any q r s _ m _ p0 (by omega) r0 (by omega) s0 (by omega) (HM.out.below (TellI.bel (by repeat (first | exact HI.out | apply TellI.drew | apply TellI.drewN | apply TellI.alloc)))) (by omega)).mono ?_
            rintro e v2 ⟨rfl, hb2⟩
            rw [HC.out]
            have HI' := Lib.hid (TellI.below (by repeat (first | exact HI.out | apply TellI.drew | apply TellI.drewN | apply TellI.alloc)) hb2)
            have HS3' := Lib.hid (SA.below (by repeat (first | exact HS3.out | apply SA.drew | apply SA.drewN | apply SA.alloc)) hb2)
            have HS4' := Lib.hid (SA.below (by repeat (first | exact HS4.out | apply SA.drew | apply SA.drewN | apply SA.alloc)) hb2)
            clear hb2
            have HI := HI'
            have HS3 := HS3'
            have HS4 := HS4'
            clear HI' HS3' HS4'
            refine hK.out _ _ ?_ (fun hHeld => ?_)
            · (try dsimp only); (refine SA.both ?_ ?_ <;> repeat (first | exact HS3.out | exact HS4.out | apply SA.drew | apply SA.drewN | apply SA.alloc))
            clear hK K
            try simp only [Act.put, List.setIfInBounds_toArray, List.set_cons_zero, List.set_cons_succ]
            refine wpAnyH_take (i := 14) (v := ?_) (by simp only [List.getElem?_toArray, List.getElem?_cons_succ, List.getElem?_cons_zero]; first | done | rfl) (by kernel_rfl) (by kernel_rfl) (by kernel_rfl) (fun _ _ _ h => h) (Or.inl ⟨by rfl, ?hy⟩) (by assumption) ?_
            case hy => (intro w hSw; (try dsimp only at hSw); go_simp; all_goals with_reducible rfl)
            try simp only [Act.put, List.setIfInBounds_toArray, List.set_cons_zero, List.set_cons_succ]
            refine wpAnyH_take (i := 15) (v := ?_) (by simp only [List.getElem?_toArray, List.getElem?_cons_succ, List.getElem?_cons_zero]; first | done | rfl) (by kernel_rfl) (by kernel_rfl) (by kernel_rfl) (fun _ _ _ h => h) (Or.inl ⟨by rfl, ?hy⟩) (by assumption) ?_
            case hy => (intro w hSw; (try dsimp only at hSw); go_simp; all_goals with_reducible rfl)
            try simp only [Act.put, List.setIfInBounds_toArray, List.set_cons_zero, List.set_cons_succ]
            refine wpAnyH_take (i := 16) (v := ?_) (by simp only [List.getElem?_toArray, List.getElem?_cons_succ, List.getElem?_cons_zero]; first | done | rfl) (by kernel_rfl) (by kernel_rfl) (by kernel_rfl) (fun _ _ _ h => h) (Or.inl ⟨by rfl, ?hy⟩) (by assumption) ?_
            case hy => (intro w hSw; (try dsimp only at hSw); go_simp; all_goals with_reducible rfl)
            try simp only [Act.put, List.setIfInBounds_toArray, List.set_cons_zero, List.set_cons_succ]
            refine wpAnyH_take (i := 17) (v := ?_) (by simp only [List.getElem?_toArray, List.getElem?_cons_succ, List.getElem?_cons_zero]; first | done | rfl) (by kernel_rfl) (by kernel_rfl) (by kernel_rfl) (fun _ _ _ h => h) (Or.inl ⟨by rfl, ?hy⟩) (by assumption) ?_
            case hy => (intro w hSw; (try dsimp only at hSw); go_simp; all_goals with_reducible rfl)
            try simp only [Act.put, List.setIfInBounds_toArray, List.set_cons_zero, List.set_cons_succ]
            refine wpAnyH_take (i := 20) (v := ?_) (by simp only [List.getElem?_toArray, List.getElem?_cons_succ, List.getElem?_cons_zero]; first | done | rfl) (by kernel_rfl) (by kernel_rfl) (by kernel_rfl) (fun _ _ _ h => h) (Or.inl ⟨by rfl, ?hy⟩) (by assumption) ?_
            case hy => (intro w hSw; (try dsimp only at hSw); go_simp; all_goals with_reducible rfl)
            try simp only [Act.put, List.setIfInBounds_toArray, List.set_cons_zero, List.set_cons_succ]
            refine wpAnyH_ready (rs := [18]) (by kernel_rfl) (by simp) ?_
            refine AllReadyH.cons (by simp only [List.getElem?_toArray, List.getElem?_cons_succ, List.getElem?_cons_zero]; first | done | rfl) (fun K hK => ?_) ?_
            · go_simp
              go_at_call 14
              refine (put_any r s _ r0 (by omega) s0 (by omega)).mono ?_
              rintro e v2 ⟨u2, rfl, hu2, hb2⟩
              obtain ⟨b2, c2, rfl⟩ := hu2.rd.shape
              have HU1 := Lib.hid hu2.rd
              clear hu2
              have HI' := Lib.hid (TellI.below (by repeat (first | exact HI.out | apply TellI.drew | apply TellI.drewN | apply TellI.alloc)) hb2)
              have HS3' := Lib.hid (SA.below (by repeat (first | exact HS3.out | apply SA.drew | apply SA.drewN | apply SA.alloc)) hb2)
              have HS4' := Lib.hid (SA.below (by repeat (first | exact HS4.out | apply SA.drew | apply SA.drewN | apply SA.alloc)) hb2)
              clear hb2
              have HI := HI'
              have HS3 := HS3'
              have HS4 := HS4'
              clear HI' HS3' HS4'
              refine hK.out _ _ ?_ (fun hHeld => ?_)
              · (try dsimp only); (refine SA.both ?_ ?_ <;> repeat (first | exact HS3.out | exact HS4.out | apply SA.drew | apply SA.drewN | apply SA.alloc))
              clear hK K
              try simp only [Act.put, List.setIfInBounds_toArray, List.set_cons_zero, List.set_cons_succ]
              refine wpAnyH_ready (rs := [19, 21]) (by kernel_rfl) (by simp) ?_
              refine AllReadyH.cons (by simp only [List.getElem?_toArray, List.getElem?_cons_succ, List.getElem?_cons_zero]; first | done | rfl) (fun K hK => ?_) ?_
              · go_simp
                rw [conv_rd (by repeat (first | exact HU1.out | apply rd_drewN | apply rd_alloc))]
                go_simp
                refine hK.out _ _ ?_ (fun hHeld => ?_)
                · (try dsimp only); (refine SA.both ?_ ?_ <;> repeat (first | exact HS3.out | exact HS4.out | apply SA.drew | apply SA.drewN | apply SA.alloc))
                clear hK K
                try simp only [Act.put, List.setIfInBounds_toArray, List.set_cons_zero, List.set_cons_succ]
                refine wpAnyH_ready (rs := [21]) (by kernel_rfl) (by simp) ?_
                refine AllReadyH.cons (by simp only [List.getElem?_toArray, List.getElem?_cons_succ, List.getElem?_cons_zero]; first | done | rfl) (fun K hK => ?_) ?_
                · go_simp
                  go_at_call 15
                  refine (rput_any r s _ r0 (by omega) s0 (by omega)).mono ?_
                  rintro e v2 ⟨u2, rfl, hu2, hb2⟩
                  obtain ⟨b2, c2, rfl⟩ := hu2.rd.shape
                  have HU2 := Lib.hid hu2.rd
                  clear hu2
                  have HI' := Lib.hid (TellI.below (by repeat (first | exact HI.out | apply TellI.drew | apply TellI.drewN | apply TellI.alloc)) hb2)
                  have HU1' := Lib.hid (Rd.below (by repeat (first | exact HU1.out | apply rd_drewN | apply rd_alloc)) hb2)
                  have HS3' := Lib.hid (SA.below (by repeat (first | exact HS3.out | apply SA.drew | apply SA.drewN | apply SA.alloc)) hb2)
                  have HS4' := Lib.hid (SA.below (by repeat (first | exact HS4.out | apply SA.drew | apply SA.drewN | apply SA.alloc)) hb2)
                  clear hb2
                  have HI := HI'
                  have HU1 := HU1'
                  have HS3 := HS3'
                  have HS4 := HS4'
                  clear HI' HU1' HS3' HS4'
                  refine hK.out _ _ ?_ (fun hHeld => ?_)
                  · (try dsimp only); (refine SA.both ?_ ?_ <;> repeat (first | exact HS3.out | exact HS4.out | apply SA.drew | apply SA.drewN | apply SA.alloc))
                  clear hK K
                  try simp only [Act.put, List.setIfInBounds_toArray, List.set_cons_zero, List.set_cons_succ]
                  refine wpAnyH_ready (rs := [22]) (by kernel_rfl) (by simp) ?_
                  refine AllReadyH.cons (by simp only [List.getElem?_toArray, List.getElem?_cons_succ, List.getElem?_cons_zero]; first | done | rfl) (fun K hK => ?_) ?_
                  · go_simp
                    rw [conv_rd (by repeat (first | exact HU2.out | apply rd_drewN | apply rd_alloc))]
                    go_simp
                    refine hK.out _ _ ?_ (fun hHeld => ?_)
                    · (try dsimp only); (refine SA.both ?_ ?_ <;> repeat (first | exact HS3.out | exact HS4.out | apply SA.drew | apply SA.drewN | apply SA.alloc))
                    clear hK K
                    try simp only [Act.put, List.setIfInBounds_toArray, List.set_cons_zero, List.set_cons_succ]
                    refine wpAnyH_take (i := 23) (v := ?_) (by simp only [List.getElem?_toArray, List.getElem?_cons_succ, List.getElem?_cons_zero]; first | done | rfl) (by kernel_rfl) (by kernel_rfl) (by kernel_rfl) (fun _ _ _ h => h) (Or.inl ⟨by rfl, ?hy⟩) (by assumption) ?_
                    case hy => (intro w hSw; (try dsimp only at hSw); go_simp; all_goals with_reducible rfl)
                    try simp only [Act.put, List.setIfInBounds_toArray, List.set_cons_zero, List.set_cons_succ]
                    refine wpAnyH_take (i := 24) (v := ?_) (by simp only [List.getElem?_toArray, List.getElem?_cons_succ, List.getElem?_cons_zero]; first | done | rfl) (by kernel_rfl) (by kernel_rfl) (by kernel_rfl) (fun _ _ _ h => h) (Or.inl ⟨by rfl, ?hy⟩) (by assumption) ?_
                    case hy => (intro w hSw; (try dsimp only at hSw); go_simp; all_goals with_reducible rfl)
                    try simp only [Act.put, List.setIfInBounds_toArray, List.set_cons_zero, List.set_cons_succ]
                    refine wpAnyH_done (by kernel_rfl) ?_ _
                    refine NoPanic.normal ?_
                    go_wp2_with fail
                    go_meet
                    exact ⟨rfl, HI.out, HS4.out⟩
                  exact AllReadyH.nil
                exact AllReadyH.nil
              refine AllReadyH.cons (by simp only [List.getElem?_toArray, List.getElem?_cons_succ, List.getElem?_cons_zero]; first | done | rfl) (fun K hK => ?_) ?_
              · go_simp
                go_at_call 15
                refine (rput_any r s _ r0 (by omega) s0 (by omega)).mono ?_
                rintro e v2 ⟨u2, rfl, hu2, hb2⟩
                obtain ⟨b2, c2, rfl⟩ := hu2.rd.shape
                have HU2 := Lib.hid hu2.rd
                clear hu2
                have HI' := Lib.hid (TellI.below (by repeat (first | exact HI.out | apply TellI.drew | apply TellI.drewN | apply TellI.alloc)) hb2)
                have HU1' := Lib.hid (Rd.below (by repeat (first | exact HU1.out | apply rd_drewN | apply rd_alloc)) hb2)
                have HS3' := Lib.hid (SA.below (by repeat (first | exact HS3.out | apply SA.drew | apply SA.drewN | apply SA.alloc)) hb2)
                have HS4' := Lib.hid (SA.below (by repeat (first | exact HS4.out | apply SA.drew | apply SA.drewN | apply SA.alloc)) hb2)
                clear hb2
                have HI := HI'
                have HU1 := HU1'
                have HS3 := HS3'
                have HS4 := HS4'
                clear HI' HU1' HS3' HS4'
                refine hK.out _ _ ?_ (fun hHeld => ?_)
                · (try dsimp only); (refine SA.both ?_ ?_ <;> repeat (first | exact HS3.out | exact HS4.out | apply SA.drew | apply SA.drewN | apply SA.alloc))
                clear hK K
                try simp only [Act.put, List.setIfInBounds_toArray, List.set_cons_zero, List.set_cons_succ]
                refine wpAnyH_ready (rs := [19, 22]) (by kernel_rfl) (by simp) ?_
                refine AllReadyH.cons (by simp only [List.getElem?_toArray, List.getElem?_cons_succ, List.getElem?_cons_zero]; first | done | rfl) (fun K hK => ?_) ?_
                · go_simp
                  rw [conv_rd (by repeat (first | exact HU1.out | apply rd_drewN | apply rd_alloc))]
                  go_simp
                  refine hK.out _ _ ?_ (fun hHeld => ?_)
                  · (try dsimp only); (refine SA.both ?_ ?_ <;> repeat (first | exact HS3.out | exact HS4.out | apply SA.drew | apply SA.drewN | apply SA.alloc))
                  clear hK K
                  try simp only [Act.put, List.setIfInBounds_toArray, List.set_cons_zero, List.set_cons_succ]
                  refine wpAnyH_ready (rs := [22]) (by kernel_rfl) (by simp) ?_
                  refine AllReadyH.cons (by simp only [List.getElem?_toArray, List.getElem?_cons_succ, List.getElem?_cons_zero]; first | done | rfl) (fun K hK => ?_) ?_
                  · go_simp
                    rw [conv_rd (by repeat (first | exact HU2.out | apply rd_drewN | apply rd_alloc))]
                    go_simp
                    refine hK.out _ _ ?_ (fun hHeld => ?_)
                    · (try dsimp only); (refine SA.both ?_ ?_ <;> repeat (first | exact HS3.out | exact HS4.out | apply SA.drew | apply SA.drewN | apply SA.alloc))
                    clear hK K
                    try simp only [Act.put, List.setIfInBounds_toArray, List.set_cons_zero, List.set_cons_succ]
                    refine wpAnyH_take (i := 23) (v := ?_) (by simp only [List.getElem?_toArray, List.getElem?_cons_succ, List.getElem?_cons_zero]; first | done | rfl) (by kernel_rfl) (by kernel_rfl) (by kernel_rfl) (fun _ _ _ h => h) (Or.inl ⟨by rfl, ?hy⟩) (by assumption) ?_
                    case hy => (intro w hSw; (try dsimp only at hSw); go_simp; all_goals with_reducible rfl)
                    try simp only [Act.put, List.setIfInBounds_toArray, List.set_cons_zero, List.set_cons_succ]
                    refine wpAnyH_take (i := 24) (v := ?_) (by simp only [List.getElem?_toArray, List.getElem?_cons_succ, List.getElem?_cons_zero]; first | done | rfl) (by kernel_rfl) (by kernel_rfl) (by kernel_rfl) (fun _ _ _ h => h) (Or.inl ⟨by rfl, ?hy⟩) (by assumption) ?_
                    case hy => (intro w hSw; (try dsimp only at hSw); go_simp; all_goals with_reducible rfl)
                    try simp only [Act.put, List.setIfInBounds_toArray, List.set_cons_zero, List.set_cons_succ]
                    refine wpAnyH_done (by kernel_rfl) ?_ _
                    refine NoPanic.normal ?_
                    go_wp2_with fail
                    go_meet
                    exact ⟨rfl, HI.out, HS4.out⟩
                  exact AllReadyH.nil
                refine AllReadyH.cons (by simp only [List.getElem?_toArray, List.getElem?_cons_succ, List.getElem?_cons_zero]; first | done | rfl) (fun K hK => ?_) ?_
                · go_simp
                  rw [conv_rd (by repeat (first | exact HU2.out | apply rd_drewN | apply rd_alloc))]
                  go_simp
                  refine hK.out _ _ ?_ (fun hHeld => ?_)
                  · (try dsimp only); (refine SA.both ?_ ?_ <;> repeat (first | exact HS3.out | exact HS4.out | apply SA.drew | apply SA.drewN | apply SA.alloc))
                  clear hK K
                  try simp only [Act.put, List.setIfInBounds_toArray, List.set_cons_zero, List.set_cons_succ]
                  refine wpAnyH_ready (rs := [19]) (by kernel_rfl) (by simp) ?_
                  refine AllReadyH.cons (by simp only [List.getElem?_toArray, List.getElem?_cons_succ, List.getElem?_cons_zero]; first | done | rfl) (fun K hK => ?_) ?_
                  · go_simp
                    rw [conv_rd (by repeat (first | exact HU1.out | apply rd_drewN | apply rd_alloc))]
                    go_simp
                    refine hK.out _ _ ?_ (fun hHeld => ?_)
                    · (try dsimp only); (refine SA.both ?_ ?_ <;> repeat (first | exact HS3.out | exact HS4.out | apply SA.drew | apply SA.drewN | apply SA.alloc))
                    clear hK K
                    try simp only [Act.put, List.setIfInBounds_toArray, List.set_cons_zero, List.set_cons_succ]
                    refine wpAnyH_take (i := 23) (v := ?_) (by simp only [List.getElem?_toArray, List.getElem?_cons_succ, List.getElem?_cons_zero]; first | done | rfl) (by kernel_rfl) (by kernel_rfl) (by kernel_rfl) (fun _ _ _ h => h) (Or.inl ⟨by rfl, ?hy⟩) (by assumption) ?_
                    case hy => (intro w hSw; (try dsimp only at hSw); go_simp; all_goals with_reducible rfl)
                    try simp only [Act.put, List.setIfInBounds_toArray, List.set_cons_zero, List.set_cons_succ]
                    refine wpAnyH_take (i := 24) (v := ?_) (by simp only [List.getElem?_toArray, List.getElem?_cons_succ, List.getElem?_cons_zero]; first | done | rfl) (by kernel_rfl) (by kernel_rfl) (by kernel_rfl) (fun _ _ _ h => h) (Or.inl ⟨by rfl, ?hy⟩) (by assumption) ?_
                    case hy => (intro w hSw; (try dsimp only at hSw); go_simp; all_goals with_reducible rfl)
                    try simp only [Act.put, List.setIfInBounds_toArray, List.set_cons_zero, List.set_cons_succ]
                    refine wpAnyH_done (by kernel_rfl) ?_ _
                    refine NoPanic.normal ?_
                    go_wp2_with fail
                    go_meet
                    exact ⟨rfl, HI.out, HS4.out⟩
                  exact AllReadyH.nil
                exact AllReadyH.nil
              exact AllReadyH.nil
            exact AllReadyH.nil
          exact AllReadyH.nil
        exact AllReadyH.nil
      case rest =>
        obtain ⟨rfl, hi6, hs6⟩ := hcut
        clear HI HS3 HS4
        have HI := Lib.hid hi6
        have HS4 := Lib.hid hs6
        obtain ⟨c0, c1⟩ := hs6.cells
        clear hi6 hs6
        obtain ⟨w6, rfl⟩ : ∃ w6, w6 = wc := ⟨_, rfl⟩
        have hk : k % 4 = 0 ∨ k % 4 = 1 ∨ k % 4 = 2 ∨ k % 4 = 3 := by omega
        go_upto_block 2 with fail
        go_cut [] (fun wx => ∃ bR bS : Int, ((0 ≤ bR ∧ bR < 18446744073709551616) ∧ (0 ≤ bS ∧ bS < 18446744073709551616)) ∧ SA w6.heap.size bR bS wx ∧ TellI w wx w2.heap.size rr rs a (a % 1000) (a % 2305843009213693950) ∧ SA w4.heap.size r s wx)
        case first =>
          rcases hk with hk | hk | hk | hk
          · go_wp2_with fail
            go_meet
            exact ⟨z, s, by omega, SA.new _ _ _ _ _, HI.out.alloc _, HS4.out.alloc _⟩
          · go_wp2_with fail
            go_meet
            exact ⟨r, z, by omega, SA.new _ _ _ _ _, HI.out.alloc _, HS4.out.alloc _⟩
          · go_wp2_with fail
            go_meet
            exact ⟨r, s + 2305843009213693950, by omega, SA.new _ _ _ _ _, HI.out.alloc _, HS4.out.alloc _⟩
          · go_wp2_with fail
            go_meet
            refine ⟨_, _, ?_, SA.new _ _ _ _ _, HI.out.alloc _, HS4.out.alloc _⟩
            have hb := bounds_u64 (wf_bits .xor .u64 r (bits .and .u64 z 1))
            omega
        case rest =>
          obtain ⟨bR, bS, ⟨⟨bR0, bR1⟩, bS0, bS1⟩, h1, h2, h3⟩ := hcut
          clear HI HS4 hk
          have HI := Lib.hid h2
          have HS4 := Lib.hid h3
          have HS6 := Lib.hid h1
          have HS9 := Lib.hid h2.raw
          clear h1 h2 h3 c0 c1
          go_upto_region 22 with fail
          go_cut [121] (fun s121 wx => s121 = .bool false ∧ TellI w wx w2.heap.size rr rs a (a % 1000) (a % 2305843009213693950))
          case first =>
            refine wp_region_noPanic ?_
            refine wp_region_held_drew (S := (fun w' => (w'.cell? ⟨w4.heap.size, 0, none⟩ = some (.int .u64 r) ∧ w'.cell? ⟨w4.heap.size, 1, none⟩ = some (.int .u64 s) ∧ w'.cell? ⟨w6.heap.size, 0, none⟩ = some (.int .u64 bR) ∧ w'.cell? ⟨w6.heap.size, 1, none⟩ = some (.int .u64 bS)) ∧ w'.cell? ⟨w.heap.size, 0, none⟩ = some (.int .u64 rr) ∧ w'.cell? ⟨w.heap.size, 1, none⟩ = some (.int .u64 rs))) (by kernel_rfl) ?_ (fun hHeld => ?_)
            · (try dsimp only); (refine ⟨SA.both ?_ ?_, SA.cells ?_⟩ <;> repeat (first | exact HS4.out | exact HS6.out | exact HS9.out | apply SA.drew | apply SA.drewN | apply SA.alloc))
            refine wpAnyH_take (i := 0) (v := ?_) (by simp only [List.getElem?_toArray, List.getElem?_cons_succ, List.getElem?_cons_zero]; first | done | rfl) (by kernel_rfl) (by kernel_rfl) (by kernel_rfl) (fun _ _ _ h => h) (Or.inl ⟨by rfl, ?hy⟩) (by assumption) ?_
            case hy => (intro w hSw; (try dsimp only at hSw); go_simp; all_goals with_reducible rfl)
            try simp only [Act.put, List.setIfInBounds_toArray, List.set_cons_zero, List.set_cons_succ]
            refine wpAnyH_take (i := 1) (v := ?_) (by simp only [List.getElem?_toArray, List.getElem?_cons_succ, List.getElem?_cons_zero]; first | done | rfl) (by kernel_rfl) (by kernel_rfl) (by kernel_rfl) (fun _ _ _ h => h) (Or.inl ⟨by rfl, ?hy⟩) (by assumption) ?_
            case hy => (intro w hSw; (try dsimp only at hSw); go_simp; all_goals with_reducible rfl)
            try simp only [Act.put, List.setIfInBounds_toArray, List.set_cons_zero, List.set_cons_succ]
            refine wpAnyH_take (i := 2) (v := ?_) (by simp only [List.getElem?_toArray, List.getElem?_cons_succ, List.getElem?_cons_zero]; first | done | rfl) (by kernel_rfl) (by kernel_rfl) (by kernel_rfl) (fun _ _ _ h => h) (Or.inl ⟨by rfl, ?hy⟩) (by assumption) ?_
            case hy => (intro w hSw; (try dsimp only at hSw); go_simp; all_goals with_reducible rfl)
            try simp only [Act.put, List.setIfInBounds_toArray, List.set_cons_zero, List.set_cons_succ]
            refine wpAnyH_take (i := 4) (v := ?_) (by simp only [List.getElem?_toArray, List.getElem?_cons_succ, List.getElem?_cons_zero]; first | done | rfl) (by kernel_rfl) (by kernel_rfl) (by kernel_rfl) (fun _ _ _ h => h) (Or.inl ⟨by rfl, ?hy⟩) (by assumption) ?_
            case hy => (intro w hSw; (try dsimp only at hSw); go_simp; all_goals with_reducible rfl)
            try simp only [Act.put, List.setIfInBounds_toArray, List.set_cons_zero, List.set_cons_succ]
            refine wpAnyH_take (i := 5) (v := ?_) (by simp only [List.getElem?_toArray, List.getElem?_cons_succ, List.getElem?_cons_zero]; first | done | rfl) (by kernel_rfl) (by kernel_rfl) (by kernel_rfl) (fun _ _ _ h => h) (Or.inl ⟨by rfl, ?hy⟩) (by assumption) ?_
            case hy => (intro w hSw; (try dsimp only at hSw); go_simp; all_goals with_reducible rfl)
            try simp only [Act.put, List.setIfInBounds_toArray, List.set_cons_zero, List.set_cons_succ]
            refine wpAnyH_take (i := 6) (v := ?_) (by simp only [List.getElem?_toArray, List.getElem?_cons_succ, List.getElem?_cons_zero]; first | done | rfl) (by kernel_rfl) (by kernel_rfl) (by kernel_rfl) (fun _ _ _ h => h) (Or.inl ⟨by rfl, ?hy⟩) (by assumption) ?_
            case hy => (intro w hSw; (try dsimp only at hSw); go_simp; all_goals with_reducible rfl)
            try simp only [Act.put, List.setIfInBounds_toArray, List.set_cons_zero, List.set_cons_succ]
            refine wpAnyH_ready (rs := [3]) (by kernel_rfl) (by simp) ?_
            refine AllReadyH.cons (by simp only [List.getElem?_toArray, List.getElem?_cons_succ, List.getElem?_cons_zero]; first | done | rfl) (fun K hK => ?_) ?_
            · go_simp
              go_at_call 13
              refine (check_any _ _ _ _ m _ (by omega) (by omega) (by omega) (by omega) (by omega) (by omega) (HM.out.below (TellI.bel (by repeat (first | exact HI.out | apply TellI.drew | apply TellI.drewN | apply TellI.alloc)))) (by omega)).mono ?_
              rintro e v2 ⟨rfl, hb2⟩
              have HI' := Lib.hid (TellI.below (by repeat (first | exact HI.out | apply TellI.drew | apply TellI.drewN | apply TellI.alloc)) hb2)
              have HS4' := Lib.hid (SA.below (by repeat (first | exact HS4.out | apply SA.drew | apply SA.drewN | apply SA.alloc)) hb2)
              have HS6' := Lib.hid (SA.below (by repeat (first | exact HS6.out | apply SA.drew | apply SA.drewN | apply SA.alloc)) hb2)
              have HS9' := Lib.hid (SA.below (by repeat (first | exact HS9.out | apply SA.drew | apply SA.drewN | apply SA.alloc)) hb2)
              clear hb2
              have HI := HI'
              have HS4 := HS4'
              have HS6 := HS6'
              have HS9 := HS9'
              clear HI' HS4' HS6' HS9'
              refine hK.out _ _ ?_ (fun hHeld => ?_)
              · (try dsimp only); (refine ⟨SA.both ?_ ?_, SA.cells ?_⟩ <;> repeat (first | exact HS4.out | exact HS6.out | exact HS9.out | apply SA.drew | apply SA.drewN | apply SA.alloc))
              clear hK K
              try simp only [Act.put, List.setIfInBounds_toArray, List.set_cons_zero, List.set_cons_succ]
              refine wpAnyH_ready (rs := [7]) (by kernel_rfl) (by simp) ?_
              refine AllReadyH.cons (by simp only [List.getElem?_toArray, List.getElem?_cons_succ, List.getElem?_cons_zero]; first | done | rfl) (fun K hK => ?_) ?_
              · go_simp
                go_at_call 16
                refine (rcheck_any _ _ _ _ m _ (by omega) (by omega) (by omega) (by omega) (by omega) (by omega) (HM.out.below (TellI.bel (by repeat (first | exact HI.out | apply TellI.drew | apply TellI.drewN | apply TellI.alloc)))) (by omega)).mono ?_
                rintro e v2 ⟨rfl, hb2⟩
                have HI' := Lib.hid (TellI.below (by repeat (first | exact HI.out | apply TellI.drew | apply TellI.drewN | apply TellI.alloc)) hb2)
                have HS4' := Lib.hid (SA.below (by repeat (first | exact HS4.out | apply SA.drew | apply SA.drewN | apply SA.alloc)) hb2)
                have HS6' := Lib.hid (SA.below (by repeat (first | exact HS6.out | apply SA.drew | apply SA.drewN | apply SA.alloc)) hb2)
                have HS9' := Lib.hid (SA.below (by repeat (first | exact HS9.out | apply SA.drew | apply SA.drewN | apply SA.alloc)) hb2)
                clear hb2
                have HI := HI'
                have HS4 := HS4'
                have HS6 := HS6'
                have HS9 := HS9'
                clear HI' HS4' HS6' HS9'
                refine hK.out _ _ ?_ (fun hHeld => ?_)
                · (try dsimp only); (refine ⟨SA.both ?_ ?_, SA.cells ?_⟩ <;> repeat (first | exact HS4.out | exact HS6.out | exact HS9.out | apply SA.drew | apply SA.drewN | apply SA.alloc))
                clear hK K
                try simp only [Act.put, List.setIfInBounds_toArray, List.set_cons_zero, List.set_cons_succ]
                refine wpAnyH_take (i := 8) (v := ?_) (by simp only [List.getElem?_toArray, List.getElem?_cons_succ, List.getElem?_cons_zero]; first | done | rfl) (by kernel_rfl) (by kernel_rfl) (by kernel_rfl) (fun _ _ _ h => h) (Or.inl ⟨by rfl, ?hy⟩) (by assumption) ?_
                case hy => (intro w hSw; (try dsimp only at hSw); go_simp; all_goals with_reducible rfl)
                try simp only [Act.put, List.setIfInBounds_toArray, List.set_cons_zero, List.set_cons_succ]
                refine wpAnyH_take (i := 9) (v := ?_) (by simp only [List.getElem?_toArray, List.getElem?_cons_succ, List.getElem?_cons_zero]; first | done | rfl) (by kernel_rfl) (by kernel_rfl) (by kernel_rfl) (fun _ _ _ h => h) (Or.inl ⟨by rfl, ?hy⟩) (by assumption) ?_
                case hy => (intro w hSw; (try dsimp only at hSw); go_simp; all_goals with_reducible rfl)
                try simp only [Act.put, List.setIfInBounds_toArray, List.set_cons_zero, List.set_cons_succ]
                refine wpAnyH_take (i := 10) (v := ?_) (by simp only [List.getElem?_toArray, List.getElem?_cons_succ, List.getElem?_cons_zero]; first | done | rfl) (by kernel_rfl) (by kernel_rfl) (by kernel_rfl) (fun _ _ _ h => h) (Or.inl ⟨by rfl, ?hy⟩) (by assumption) ?_
                case hy => (intro w hSw; (try dsimp only at hSw); go_simp; all_goals with_reducible rfl)
                try simp only [Act.put, List.setIfInBounds_toArray, List.set_cons_zero, List.set_cons_succ]
                refine wpAnyH_take (i := 11) (v := ?_) (by simp only [List.getElem?_toArray, List.getElem?_cons_succ, List.getElem?_cons_zero]; first | done | rfl) (by kernel_rfl) (by kernel_rfl) (by kernel_rfl) (fun _ _ _ h => h) (Or.inl ⟨by rfl, ?hy⟩) (by assumption) ?_
                case hy => (intro w hSw; (try dsimp only at hSw); go_simp; all_goals with_reducible rfl)
                try simp only [Act.put, List.setIfInBounds_toArray, List.set_cons_zero, List.set_cons_succ]
                refine wpAnyH_take (i := 12) (v := ?_) (by simp only [List.getElem?_toArray, List.getElem?_cons_succ, List.getElem?_cons_zero]; first | done | rfl) (by kernel_rfl) (by kernel_rfl) (by kernel_rfl) (fun _ _ _ h => h) (Or.inl ⟨by rfl, ?hy⟩) (by assumption) ?_
                case hy => (intro w hSw; (try dsimp only at hSw); go_simp; all_goals with_reducible rfl)
                try simp only [Act.put, List.setIfInBounds_toArray, List.set_cons_zero, List.set_cons_succ]
                refine wpAnyH_take (i := 14) (v := ?_) (by simp only [List.getElem?_toArray, List.getElem?_cons_succ, List.getElem?_cons_zero]; first | done | rfl) (by kernel_rfl) (by kernel_rfl) (by kernel_rfl) (fun _ _ _ h => h) (Or.inl ⟨by rfl, ?hy⟩) (by assumption) ?_
                case hy => (intro w hSw; (try dsimp only at hSw); go_simp; all_goals with_reducible rfl)
                try simp only [Act.put, List.setIfInBounds_toArray, List.set_cons_zero, List.set_cons_succ]
                refine wpAnyH_take (i := 15) (v := ?_) (by simp only [List.getElem?_toArray, List.getElem?_cons_succ, List.getElem?_cons_zero]; first | done | rfl) (by kernel_rfl) (by kernel_rfl) (by kernel_rfl) (fun _ _ _ h => h) (Or.inl ⟨by rfl, ?hy⟩) (by assumption) ?_
                case hy => (intro w hSw; (try dsimp only at hSw); go_simp; all_goals with_reducible rfl)
                try simp only [Act.put, List.setIfInBounds_toArray, List.set_cons_zero, List.set_cons_succ]
                refine wpAnyH_take (i := 16) (v := ?_) (by simp only [List.getElem?_toArray, List.getElem?_cons_succ, List.getElem?_cons_zero]; first | done | rfl) (by kernel_rfl) (by kernel_rfl) (by kernel_rfl) (fun _ _ _ h => h) (Or.inl ⟨by rfl, ?hy⟩) (by assumption) ?_
                case hy => (intro w hSw; (try dsimp only at hSw); go_simp; all_goals with_reducible rfl)
                try simp only [Act.put, List.setIfInBounds_toArray, List.set_cons_zero, List.set_cons_succ]
                refine wpAnyH_ready (rs := [13]) (by kernel_rfl) (by simp) ?_
                refine AllReadyH.cons (by simp only [List.getElem?_toArray, List.getElem?_cons_succ, List.getElem?_cons_zero]; first | done | rfl) (fun K hK => ?_) ?_
                · go_simp
                  go_at_call 13
                  refine (check_any _ _ _ _ m _ (by omega) (by omega) (by omega) (by omega) (by omega) (by omega) (HM.out.below (TellI.bel (by repeat (first | exact HI.out | apply TellI.drew | apply TellI.drewN | apply TellI.alloc)))) (by omega)).mono ?_
                  rintro e v2 ⟨rfl, hb2⟩
                  have HI' := Lib.hid (TellI.below (by repeat (first | exact HI.out | apply TellI.drew | apply TellI.drewN | apply TellI.alloc)) hb2)
                  have HS4' := Lib.hid (SA.below (by repeat (first | exact HS4.out | apply SA.drew | apply SA.drewN | apply SA.alloc)) hb2)
                  have HS6' := Lib.hid (SA.below (by repeat (first | exact HS6.out | apply SA.drew | apply SA.drewN | apply SA.alloc)) hb2)
                  have HS9' := Lib.hid (SA.below (by repeat (first | exact HS9.out | apply SA.drew | apply SA.drewN | apply SA.alloc)) hb2)
                  clear hb2
                  have HI := HI'
                  have HS4 := HS4'
                  have HS6 := HS6'
                  have HS9 := HS9'
                  clear HI' HS4' HS6' HS9'
                  refine hK.out _ _ ?_ (fun hHeld => ?_)
                  · (try dsimp only); (refine ⟨SA.both ?_ ?_, SA.cells ?_⟩ <;> repeat (first | exact HS4.out | exact HS6.out | exact HS9.out | apply SA.drew | apply SA.drewN | apply SA.alloc))
                  clear hK K
                  try simp only [Act.put, List.setIfInBounds_toArray, List.set_cons_zero, List.set_cons_succ]
                  refine wpAnyH_ready (rs := [17]) (by kernel_rfl) (by simp) ?_
                  refine AllReadyH.cons (by simp only [List.getElem?_toArray, List.getElem?_cons_succ, List.getElem?_cons_zero]; first | done | rfl) (fun K hK => ?_) ?_
                  · go_simp
                    go_at_call 16
                    refine (rcheck_any _ _ _ _ m _ (by omega) (by omega) (by omega) (by omega) (by omega) (by omega) (HM.out.below (TellI.bel (by repeat (first | exact HI.out | apply TellI.drew | apply TellI.drewN | apply TellI.alloc)))) (by omega)).mono ?_
                    rintro e v2 ⟨rfl, hb2⟩
                    have HI' := Lib.hid (TellI.below (by repeat (first | exact HI.out | apply TellI.drew | apply TellI.drewN | apply TellI.alloc)) hb2)
                    have HS4' := Lib.hid (SA.below (by repeat (first | exact HS4.out | apply SA.drew | apply SA.drewN | apply SA.alloc)) hb2)
                    have HS6' := Lib.hid (SA.below (by repeat (first | exact HS6.out | apply SA.drew | apply SA.drewN | apply SA.alloc)) hb2)
                    have HS9' := Lib.hid (SA.below (by repeat (first | exact HS9.out | apply SA.drew | apply SA.drewN | apply SA.alloc)) hb2)
                    clear hb2
                    have HI := HI'
                    have HS4 := HS4'
                    have HS6 := HS6'
                    have HS9 := HS9'
                    clear HI' HS4' HS6' HS9'
                    refine hK.out _ _ ?_ (fun hHeld => ?_)
                    · (try dsimp only); (refine ⟨SA.both ?_ ?_, SA.cells ?_⟩ <;> repeat (first | exact HS4.out | exact HS6.out | exact HS9.out | apply SA.drew | apply SA.drewN | apply SA.alloc))
                    clear hK K
                    try simp only [Act.put, List.setIfInBounds_toArray, List.set_cons_zero, List.set_cons_succ]
                    refine wpAnyH_take (i := 18) (v := ?_) (by simp only [List.getElem?_toArray, List.getElem?_cons_succ, List.getElem?_cons_zero]; first | done | rfl) (by kernel_rfl) (by kernel_rfl) (by kernel_rfl) (fun _ _ _ h => h) (Or.inl ⟨by rfl, ?hy⟩) (by assumption) ?_
                    case hy => (intro w hSw; (try dsimp only at hSw); go_simp; all_goals with_reducible rfl)
                    try simp only [Act.put, List.setIfInBounds_toArray, List.set_cons_zero, List.set_cons_succ]
                    refine wpAnyH_take (i := 19) (v := ?_) (by simp only [List.getElem?_toArray, List.getElem?_cons_succ, List.getElem?_cons_zero]; first | done | rfl) (by kernel_rfl) (by kernel_rfl) (by kernel_rfl) (fun _ _ _ h => h) (Or.inl ⟨by rfl, ?hy⟩) (by assumption) ?_
                    case hy => (intro w hSw; (try dsimp only at hSw); go_simp; all_goals with_reducible rfl)
                    try simp only [Act.put, List.setIfInBounds_toArray, List.set_cons_zero, List.set_cons_succ]
                    refine wpAnyH_take (i := 20) (v := ?_) (by simp only [List.getElem?_toArray, List.getElem?_cons_succ, List.getElem?_cons_zero]; first | done | rfl) (by kernel_rfl) (by kernel_rfl) (by kernel_rfl) (fun _ _ _ h => h) (Or.inl ⟨by rfl, ?hy⟩) (by assumption) ?_
                    case hy => (intro w hSw; (try dsimp only at hSw); go_simp; all_goals with_reducible rfl)
                    try simp only [Act.put, List.setIfInBounds_toArray, List.set_cons_zero, List.set_cons_succ]
                    refine wpAnyH_take (i := 21) (v := ?_) (by simp only [List.getElem?_toArray, List.getElem?_cons_succ, List.getElem?_cons_zero]; first | done | rfl) (by kernel_rfl) (by kernel_rfl) (by kernel_rfl) (fun _ _ _ h => h) (Or.inl ⟨by rfl, ?hy⟩) (by assumption) ?_
                    case hy => (intro w hSw; (try dsimp only at hSw); go_simp; all_goals with_reducible rfl)
                    try simp only [Act.put, List.setIfInBounds_toArray, List.set_cons_zero, List.set_cons_succ]
                    refine wpAnyH_take (i := 22) (v := ?_) (by simp only [List.getElem?_toArray, List.getElem?_cons_succ, List.getElem?_cons_zero]; first | done | rfl) (by kernel_rfl) (by kernel_rfl) (by kernel_rfl) (fun _ _ _ h => h) (Or.inl ⟨by rfl, ?hy⟩) (by assumption) ?_
                    case hy => (intro w hSw; (try dsimp only at hSw); go_simp; all_goals with_reducible rfl)
                    try simp only [Act.put, List.setIfInBounds_toArray, List.set_cons_zero, List.set_cons_succ]
                    refine wpAnyH_take (i := 23) (v := ?_) (by simp only [List.getElem?_toArray, List.getElem?_cons_succ, List.getElem?_cons_zero]; first | done | rfl) (by kernel_rfl) (by kernel_rfl) (by kernel_rfl) (fun _ _ _ h => h) (Or.inl ⟨by rfl, ?hy⟩) (by assumption) ?_
                    case hy => (intro w hSw; (try dsimp only at hSw); go_simp; all_goals with_reducible rfl)
                    try simp only [Act.put, List.setIfInBounds_toArray, List.set_cons_zero, List.set_cons_succ]
                    refine wpAnyH_take (i := 25) (v := ?_) (by simp only [List.getElem?_toArray, List.getElem?_cons_succ, List.getElem?_cons_zero]; first | done | rfl) (by kernel_rfl) (by kernel_rfl) (by kernel_rfl) (fun _ _ _ h => h) (Or.inl ⟨by rfl, ?hy⟩) (by assumption) ?_
                    case hy => (intro w hSw; (try dsimp only at hSw); go_simp; all_goals with_reducible rfl)
                    try simp only [Act.put, List.setIfInBounds_toArray, List.set_cons_zero, List.set_cons_succ]
                    refine wpAnyH_take (i := 26) (v := ?_) (by simp only [List.getElem?_toArray, List.getElem?_cons_succ, List.getElem?_cons_zero]; first | done | rfl) (by kernel_rfl) (by kernel_rfl) (by kernel_rfl) (fun _ _ _ h => h) (Or.inl ⟨by rfl, ?hy⟩) (by assumption) ?_
                    case hy => (intro w hSw; (try dsimp only at hSw); go_simp; all_goals with_reducible rfl)
                    try simp only [Act.put, List.setIfInBounds_toArray, List.set_cons_zero, List.set_cons_succ]
                    refine wpAnyH_take (i := 27) (v := ?_) (by simp only [List.getElem?_toArray, List.getElem?_cons_succ, List.getElem?_cons_zero]; first | done | rfl) (by kernel_rfl) (by kernel_rfl) (by kernel_rfl) (fun _ _ _ h => h) (Or.inl ⟨by rfl, ?hy⟩) (by assumption) ?_
                    case hy => (intro w hSw; (try dsimp only at hSw); go_simp; all_goals with_reducible rfl)
                    try simp only [Act.put, List.setIfInBounds_toArray, List.set_cons_zero, List.set_cons_succ]
                    refine wpAnyH_ready (rs := [24]) (by kernel_rfl) (by simp) ?_
                    refine AllReadyH.cons (by simp only [List.getElem?_toArray, List.getElem?_cons_succ, List.getElem?_cons_zero]; first | done | rfl) (fun K hK => ?_) ?_
                    · go_simp
                      go_at_call 13
                      refine (check_any _ _ _ _ m _ (by omega) (by omega) (by omega) (by omega) (by omega) (by omega) (HM.out.below (TellI.bel (by repeat (first | exact HI.out | apply TellI.drew | apply TellI.drewN | apply TellI.alloc)))) (by omega)).mono ?_
                      rintro e v2 ⟨rfl, hb2⟩
                      have HI' := Lib.hid (TellI.below (by repeat (first | exact HI.out | apply TellI.drew | apply TellI.drewN | apply TellI.alloc)) hb2)
                      have HS4' := Lib.hid (SA.below (by repeat (first | exact HS4.out | apply SA.drew | apply SA.drewN | apply SA.alloc)) hb2)
                      have HS6' := Lib.hid (SA.below (by repeat (first | exact HS6.out | apply SA.drew | apply SA.drewN | apply SA.alloc)) hb2)
                      have HS9' := Lib.hid (SA.below (by repeat (first | exact HS9.out | apply SA.drew | apply SA.drewN | apply SA.alloc)) hb2)
                      clear hb2
                      have HI := HI'
                      have HS4 := HS4'
                      have HS6 := HS6'
                      have HS9 := HS9'
                      clear HI' HS4' HS6' HS9'
                      refine hK.out _ _ ?_ (fun hHeld => ?_)
                      · (try dsimp only); (refine ⟨SA.both ?_ ?_, SA.cells ?_⟩ <;> repeat (first | exact HS4.out | exact HS6.out | exact HS9.out | apply SA.drew | apply SA.drewN | apply SA.alloc))
                      clear hK K
                      try simp only [Act.put, List.setIfInBounds_toArray, List.set_cons_zero, List.set_cons_succ]
                      refine wpAnyH_ready (rs := [28]) (by kernel_rfl) (by simp) ?_
                      refine AllReadyH.cons (by simp only [List.getElem?_toArray, List.getElem?_cons_succ, List.getElem?_cons_zero]; first | done | rfl) (fun K hK => ?_) ?_
                      · go_simp
                        go_at_call 16
                        refine (rcheck_any _ _ _ _ m _ (by omega) (by omega) (by omega) (by omega) (by omega) (by omega) (HM.out.below (TellI.bel (by repeat (first | exact HI.out | apply TellI.drew | apply TellI.drewN | apply TellI.alloc)))) (by omega)).mono ?_
                        rintro e v2 ⟨rfl, hb2⟩
                        have HI' := Lib.hid (TellI.below (by repeat (first | exact HI.out | apply TellI.drew | apply TellI.drewN | apply TellI.alloc)) hb2)
                        have HS4' := Lib.hid (SA.below (by repeat (first | exact HS4.out | apply SA.drew | apply SA.drewN | apply SA.alloc)) hb2)
                        have HS6' := Lib.hid (SA.below (by repeat (first | exact HS6.out | apply SA.drew | apply SA.drewN | apply SA.alloc)) hb2)
                        have HS9' := Lib.hid (SA.below (by repeat (first | exact HS9.out | apply SA.drew | apply SA.drewN | apply SA.alloc)) hb2)
                        clear hb2
                        have HI := HI'
                        have HS4 := HS4'
                        have HS6 := HS6'
                        have HS9 := HS9'
                        clear HI' HS4' HS6' HS9'
                        refine hK.out _ _ ?_ (fun hHeld => ?_)
                        · (try dsimp only); (refine ⟨SA.both ?_ ?_, SA.cells ?_⟩ <;> repeat (first | exact HS4.out | exact HS6.out | exact HS9.out | apply SA.drew | apply SA.drewN | apply SA.alloc))
                        clear hK K
                        try simp only [Act.put, List.setIfInBounds_toArray, List.set_cons_zero, List.set_cons_succ]
                        refine wpAnyH_take (i := 29) (v := ?_) (by simp only [List.getElem?_toArray, List.getElem?_cons_succ, List.getElem?_cons_zero]; first | done | rfl) (by kernel_rfl) (by kernel_rfl) (by kernel_rfl) (fun _ _ _ h => h) (Or.inl ⟨by rfl, ?hy⟩) (by assumption) ?_
                        case hy => (intro w hSw; (try dsimp only at hSw); go_simp; all_goals with_reducible rfl)
                        try simp only [Act.put, List.setIfInBounds_toArray, List.set_cons_zero, List.set_cons_succ]
                        refine wpAnyH_take (i := 30) (v := ?_) (by simp only [List.getElem?_toArray, List.getElem?_cons_succ, List.getElem?_cons_zero]; first | done | rfl) (by kernel_rfl) (by kernel_rfl) (by kernel_rfl) (fun _ _ _ h => h) (Or.inl ⟨by rfl, ?hy⟩) (by assumption) ?_
                        case hy => (intro w hSw; (try dsimp only at hSw); go_simp; all_goals with_reducible rfl)
                        try simp only [Act.put, List.setIfInBounds_toArray, List.set_cons_zero, List.set_cons_succ]
                        refine wpAnyH_done (by kernel_rfl) ?_ _
                        refine NoPanic.normal ?_
                        go_wp2_with fail
                        go_meet
                        exact ⟨by simp, HI.out⟩
                      exact AllReadyH.nil
                    exact AllReadyH.nil
                  exact AllReadyH.nil
                exact AllReadyH.nil
              exact AllReadyH.nil
            exact AllReadyH.nil
          case rest =>
            obtain ⟨rfl, h7⟩ := hcut
            go_wp2_with fail
            go_roundw
            case rel => exact ⟨i + 1, by go_num, by omega, h7⟩
            case measure => simp [intOf]; omega
    · obtain rfl : i = 3 := by omega
      have HS9 := Lib.hid HI.out.raw
      go_upto_region 25 with fail
      refine wp_region_noPanic ?_
      refine wp_region_held_drew (S := (fun w' => w'.cell? ⟨w.heap.size, 0, none⟩ = some (.int .u64 rr) ∧ w'.cell? ⟨w.heap.size, 1, none⟩ = some (.int .u64 rs))) (by kernel_rfl) ?_ (fun hHeld => ?_)
      · (try dsimp only); (refine SA.cells ?_; repeat (first | exact HS9.out | apply SA.drew | apply SA.drewN | apply SA.alloc))
      refine wpAnyH_take (i := 0) (v := ?_) (by simp only [List.getElem?_toArray, List.getElem?_cons_succ, List.getElem?_cons_zero]; first | done | rfl) (by kernel_rfl) (by kernel_rfl) (by kernel_rfl) (fun _ _ _ h => h) (Or.inl ⟨by rfl, ?hy⟩) (by assumption) ?_
      case hy => (intro w hSw; (try dsimp only at hSw); go_simp; all_goals with_reducible rfl)
      try simp only [Act.put, List.setIfInBounds_toArray, List.set_cons_zero, List.set_cons_succ]
      refine wpAnyH_take (i := 1) (v := ?_) (by simp only [List.getElem?_toArray, List.getElem?_cons_succ, List.getElem?_cons_zero]; first | done | rfl) (by kernel_rfl) (by kernel_rfl) (by kernel_rfl) (fun _ _ _ h => h) (Or.inl ⟨by rfl, ?hy⟩) (by assumption) ?_
      case hy => (intro w hSw; (try dsimp only at hSw); go_simp; all_goals with_reducible rfl)
      try simp only [Act.put, List.setIfInBounds_toArray, List.set_cons_zero, List.set_cons_succ]
      refine wpAnyH_take (i := 2) (v := ?_) (by simp only [List.getElem?_toArray, List.getElem?_cons_succ, List.getElem?_cons_zero]; first | done | rfl) (by kernel_rfl) (by kernel_rfl) (by kernel_rfl) (fun _ _ _ h => h) (Or.inl ⟨by rfl, ?hy⟩) (by assumption) ?_
      case hy => (intro w hSw; (try dsimp only at hSw); go_simp; all_goals with_reducible rfl)
      try simp only [Act.put, List.setIfInBounds_toArray, List.set_cons_zero, List.set_cons_succ]
      refine wpAnyH_take (i := 4) (v := ?_) (by simp only [List.getElem?_toArray, List.getElem?_cons_succ, List.getElem?_cons_zero]; first | done | rfl) (by kernel_rfl) (by kernel_rfl) (by kernel_rfl) (fun _ _ _ h => h) (Or.inl ⟨by rfl, ?hy⟩) (by assumption) ?_
      case hy => (intro w hSw; (try dsimp only at hSw); go_simp; all_goals with_reducible rfl)
      try simp only [Act.put, List.setIfInBounds_toArray, List.set_cons_zero, List.set_cons_succ]
      refine wpAnyH_take (i := 5) (v := ?_) (by simp only [List.getElem?_toArray, List.getElem?_cons_succ, List.getElem?_cons_zero]; first | done | rfl) (by kernel_rfl) (by kernel_rfl) (by kernel_rfl) (fun _ _ _ h => h) (Or.inl ⟨by rfl, ?hy⟩) (by assumption) ?_
      case hy => (intro w hSw; (try dsimp only at hSw); go_simp; all_goals with_reducible rfl)
      try simp only [Act.put, List.setIfInBounds_toArray, List.set_cons_zero, List.set_cons_succ]
      refine wpAnyH_take (i := 6) (v := ?_) (by simp only [List.getElem?_toArray, List.getElem?_cons_succ, List.getElem?_cons_zero]; first | done | rfl) (by kernel_rfl) (by kernel_rfl) (by kernel_rfl) (fun _ _ _ h => h) (Or.inl ⟨by rfl, ?hy⟩) (by assumption) ?_
      case hy => (intro w hSw; (try dsimp only at hSw); go_simp; all_goals with_reducible rfl)
      try simp only [Act.put, List.setIfInBounds_toArray, List.set_cons_zero, List.set_cons_succ]
      refine wpAnyH_ready (rs := [3]) (by kernel_rfl) (by simp) ?_
      refine AllReadyH.cons (by simp only [List.getElem?_toArray, List.getElem?_cons_succ, List.getElem?_cons_zero]; first | done | rfl) (fun K hK => ?_) ?_
      · go_simp
        go_at_call 13
        refine (check_any _ _ _ _ m _ (by omega) (by omega) (by omega) (by omega) (by omega) (by omega) (HM.out.below (TellI.bel (by repeat (first | exact HI.out | apply TellI.drew | apply TellI.drewN | apply TellI.alloc)))) (by omega)).mono ?_
        rintro e v2 ⟨rfl, hb2⟩
        have HI' := Lib.hid (TellI.below (by repeat (first | exact HI.out | apply TellI.drew | apply TellI.drewN | apply TellI.alloc)) hb2)
        have HS9' := Lib.hid (SA.below (by repeat (first | exact HS9.out | apply SA.drew | apply SA.drewN | apply SA.alloc)) hb2)
        clear hb2
        have HI := HI'
        have HS9 := HS9'
        clear HI' HS9'
        refine hK.out _ _ ?_ (fun hHeld => ?_)
        · (try dsimp only); (refine SA.cells ?_; repeat (first | exact HS9.out | apply SA.drew | apply SA.drewN | apply SA.alloc))
        clear hK K
        try simp only [Act.put, List.setIfInBounds_toArray, List.set_cons_zero, List.set_cons_succ]
        refine wpAnyH_ready (rs := [7]) (by kernel_rfl) (by simp) ?_
        refine AllReadyH.cons (by simp only [List.getElem?_toArray, List.getElem?_cons_succ, List.getElem?_cons_zero]; first | done | rfl) (fun K hK => ?_) ?_
        · go_simp
          go_at_call 16
          refine (rcheck_any _ _ _ _ m _ (by omega) (by omega) (by omega) (by omega) (by omega) (by omega) (HM.out.below (TellI.bel (by repeat (first | exact HI.out | apply TellI.drew | apply TellI.drewN | apply TellI.alloc)))) (by omega)).mono ?_
          rintro e v2 ⟨rfl, hb2⟩
          have HI' := Lib.hid (TellI.below (by repeat (first | exact HI.out | apply TellI.drew | apply TellI.drewN | apply TellI.alloc)) hb2)
          have HS9' := Lib.hid (SA.below (by repeat (first | exact HS9.out | apply SA.drew | apply SA.drewN | apply SA.alloc)) hb2)
          clear hb2
          have HI := HI'
          have HS9 := HS9'
          clear HI' HS9'
          refine hK.out _ _ ?_ (fun hHeld => ?_)
          · (try dsimp only); (refine SA.cells ?_; repeat (first | exact HS9.out | apply SA.drew | apply SA.drewN | apply SA.alloc))
          clear hK K
          try simp only [Act.put, List.setIfInBounds_toArray, List.set_cons_zero, List.set_cons_succ]
          refine wpAnyH_take (i := 8) (v := ?_) (by simp only [List.getElem?_toArray, List.getElem?_cons_succ, List.getElem?_cons_zero]; first | done | rfl) (by kernel_rfl) (by kernel_rfl) (by kernel_rfl) (fun _ _ _ h => h) (Or.inl ⟨by rfl, ?hy⟩) (by assumption) ?_
          case hy => (intro w hSw; (try dsimp only at hSw); go_simp; all_goals with_reducible rfl)
          try simp only [Act.put, List.setIfInBounds_toArray, List.set_cons_zero, List.set_cons_succ]
          refine wpAnyH_take (i := 9) (v := ?_) (by simp only [List.getElem?_toArray, List.getElem?_cons_succ, List.getElem?_cons_zero]; first | done | rfl) (by kernel_rfl) (by kernel_rfl) (by kernel_rfl) (fun _ _ _ h => h) (Or.inl ⟨by rfl, ?hy⟩) (by assumption) ?_
          case hy => (intro w hSw; (try dsimp only at hSw); go_simp; all_goals with_reducible rfl)
          try simp only [Act.put, List.setIfInBounds_toArray, List.set_cons_zero, List.set_cons_succ]
          refine wpAnyH_done (by kernel_rfl) ?_ _
          refine NoPanic.normal ?_
          go_wp2_with fail
          go_ret
          exact ⟨by simp, HI.out.bel⟩
        exact AllReadyH.nil
      exact AllReadyH.nil
end Go.Proofs.Ytebepjgopmaogaa
