/-
  known holds.
-/
import Derived.Test.YtebepjgopmaogaaKnV
import Derived.Lib.SlBytesConst
namespace Go.Proofs.Ytebepjgopmaogaa
set_option linter.unusedVariables false
set_option linter.unusedSimpArgs false
open Go.RowKit

theorem rd_marked (w : World) (b : UInt8) (fr : Nat × Nat) : Rd (w.alloc (.cells #[bv b] 5 fr)) (.slice (some ⟨w.heap.size, 0, none⟩) 1 1) [b] := by
  refine .inr ⟨_, 0, 1, rfl, Nat.le_refl _, by decide, fun i hi => ?_⟩
  have : i = 0 := by simp at hi; omega
  subst this
  rw [cell_of_row _ _ _ _ _ _ (heap_alloc_new _ _)]
  rfl
theorem rd_drewN {w : World} {v : Value} {l : List UInt8} (h : Rd w v l) (n : Nat) : Rd (w.drewN n) v l := h.below (Dr.below (Dr.drewN (Dr.refl _) n) _)
theorem convert_drewN (w : World) (t e : TypeId) (C : Array Value) (n c k : Nat) (ht : Try.prog.underlying t = some (.slice e)) (he : Try.prog.underlying e = some (.int .u8)) :
    (convert t t (.slice (some ⟨w.heap.size, 0, none⟩) n c)).run Try.prog ((w.alloc (.cells C e)).drewN k) = .ok (.slice (some ⟨w.heap.size, 0, none⟩) n c) ((w.alloc (.cells C e (C.size, C.size + 1))).drewN k) := by
  have h := Lib.run_convert_bytes_const (P := Try.prog) w t e C n c ht he
  have hsh : (w.alloc (.cells C e)).shape? w.heap.size = some (e, C.size) := by
    have : (w.alloc (.cells C e)).heap[w.heap.size]? = some (.cells C e) := by
      show (w.heap.push (.cells C e))[w.heap.size]? = _
      simp
    unfold World.shape?
    rw [this]
  have hsh2 : ((w.alloc (.cells C e)).drewN k).shape? w.heap.size = some (e, C.size) := hsh
  have hfz : ((w.alloc (.cells C e)).drewN k).freeze ⟨w.heap.size, C.size, none⟩ 1 = ((w.alloc (.cells C e)).freeze ⟨w.heap.size, C.size, none⟩ 1).drewN k := rfl
  simp [convert, run_underlying ht, run_underlying he, markStringish, hsh] at h
  simp [convert, run_underlying ht, run_underlying he, markStringish, hsh2]
  rw [← h]
  rfl
theorem sign9 : signV 9 [109] = sigV (sigR 9 [109]) (sigS 9 [109]) := rfl

/-- The box of a signature stands, and is old. -/
structure SA (g : Nat) (r s : Int) (w : World) : Prop where
  at_ : SigAt g r s w
  lt : g < w.heap.size
theorem SA.below {g : Nat} {r s : Int} {w w' : World} (h : SA g r s w) (hb : Below w.heap.size w w') : SA g r s w' := ⟨h.at_.below h.lt hb, Nat.lt_of_lt_of_le h.lt hb.size⟩
theorem SA.dr {g : Nat} {r s : Int} {w w' : World} (h : SA g r s w) (hb : Dr w w') : SA g r s w' := h.below (hb.below _)
theorem SA.alloc {g : Nat} {r s : Int} {w : World} (h : SA g r s w) (o : Obj) : SA g r s (w.alloc o) := h.below (bl_alloc (Below.refl _ _) o)
theorem SA.drew {g : Nat} {r s : Int} {w : World} (h : SA g r s w) : SA g r s w.drew := h.dr (Dr.drew (Dr.refl _))
theorem SA.drewN {g : Nat} {r s : Int} {w : World} (h : SA g r s w) (n : Nat) : SA g r s (w.drewN n) := h.dr (Dr.drewN (Dr.refl _) n)
theorem SA.cells {g : Nat} {r s : Int} {w : World} (h : SA g r s w) : w.cell? ⟨g, 0, none⟩ = some (.int .u64 r) ∧ w.cell? ⟨g, 1, none⟩ = some (.int .u64 s) := h.at_
theorem SA.new (r s : Int) (w : World) (fr : Nat × Nat) (T : Nat) : SA w.heap.size r s (w.alloc (.cells #[.int .u64 r, .int .u64 s] T fr)) :=
  ⟨⟨by rw [cell_of_row _ _ _ _ _ _ (heap_alloc_new _ _)]; rfl, by rw [cell_of_row _ _ _ _ _ _ (heap_alloc_new _ _)]; rfl⟩, by simp⟩
theorem bl_drew {a b : World} (h : Below a.heap.size a b) : Below a.heap.size a b.drew := bl_dr h (Dr.drew (Dr.refl _))
theorem putF_len (r s : Int) : (putF r s).length = 16 := by simp [putF, numB_length]

set_option maxRecDepth 100000 in
set_option maxHeartbeats 3200000 in
theorem known_any (w : World) :
    Calls Try.prog 8 #[] w fun e w' => e = .returned (.bool true) ∧ Below w.heap.size w w' := by
  have kc := fun (w : World) (C : Array Value) (n c : Nat) => Lib.run_convert_bytes_const (P := Try.prog) w 23 5 C n c Try.underlying23 Try.underlying5
  have kd := fun (w : World) (C : Array Value) (n c k : Nat) => convert_drewN w 23 5 C n c k Try.underlying23 Try.underlying5
  have ke := fun (w : World) (C : Array Value) (n c j : Nat) => show Sem.run Try.prog (convert 23 23 (.slice (some ⟨w.heap.size, 0, none⟩) n c)) ((w.drewN j).alloc (.cells C 5)) = .ok (.slice (some ⟨w.heap.size, 0, none⟩) n c) ((w.drewN j).alloc (.cells C 5 (C.size, C.size + 1))) from kc (w.drewN j) C n c
  have kf := fun (w : World) (C : Array Value) (n c j k : Nat) => show Sem.run Try.prog (convert 23 23 (.slice (some ⟨w.heap.size, 0, none⟩) n c)) (((w.drewN j).alloc (.cells C 5)).drewN k) = .ok (.slice (some ⟨w.heap.size, 0, none⟩) n c) (((w.drewN j).alloc (.cells C 5 (C.size, C.size + 1))).drewN k) from kd (w.drewN j) C n c k
  have kg := fun (w : World) (C : Array Value) (n c : Nat) => show Sem.run Try.prog (convert 23 23 (.slice (some ⟨w.heap.size, 0, none⟩) n c)) ((w.alloc (.cells C 5)).drew) = .ok (.slice (some ⟨w.heap.size, 0, none⟩) n c) ((w.alloc (.cells C 5 (C.size, C.size + 1))).drew) from kd w C n c 1
  have kh := fun (w : World) (C : Array Value) (n c j : Nat) => show Sem.run Try.prog (convert 23 23 (.slice (some ⟨w.heap.size, 0, none⟩) n c)) (((w.drewN j).alloc (.cells C 5)).drew) = .ok (.slice (some ⟨w.heap.size, 0, none⟩) n c) (((w.drewN j).alloc (.cells C 5 (C.size, C.size + 1))).drew) from kd (w.drewN j) C n c 1
  go_enter Try.func8, Try.ntmps8
  go_wp2_with fail
  have hm := rd_marked w 109 (1, 2)
  refine (sign_any 9 _ [109] _ (by omega) (by omega) hm (by decide)).mono ?_
  rintro e w1 ⟨rfl, hb⟩
  rw [sign9]
  unfold sigV
  have HB := Lib.hid (bl_bl (bl_alloc (Below.refl w.heap.size w) _) hb)
  obtain ⟨r0, r1⟩ := sigR_bd 9 [109]
  obtain ⟨s0, s1⟩ := sigS_bd 9 [109]
  have HM := Lib.hid known_m
  have HN := Lib.hid known_n
  generalize sigR 9 [109] = r at *
  generalize sigS 9 [109] = s at *
  clear hb hm
  go_upto_region 2 with fail
  refine wp_world (fun W => SA w1.heap.size r s W ∧ Below w.heap.size w W) ⟨SA.new _ _ _ _ _, bl_alloc HB.out _⟩ ?_
  rintro W ⟨hS, hB⟩
  have HS := Lib.hid hS
  have HB := Lib.hid hB
  clear hS hB
  obtain ⟨p0, p1⟩ := pubF_bd 9
  refine wp_region_noPanic ?_
  refine wp_region_held_drew (S := (fun w' => w'.cell? ⟨w1.heap.size, 0, none⟩ = some (.int .u64 r) ∧ w'.cell? ⟨w1.heap.size, 1, none⟩ = some (.int .u64 s))) (by kernel_rfl) ?_ (fun hHeld => ?_)
  · (try dsimp only); (first | (refine SA.cells ?_; repeat (first | exact HS.out | apply SA.drew | apply SA.drewN | apply SA.alloc)))
  refine wpAnyH_take (i := 3) (v := ?_) (by simp only [List.getElem?_toArray, List.getElem?_cons_succ, List.getElem?_cons_zero]; first | done | rfl) (by kernel_rfl) (by kernel_rfl) (by kernel_rfl) (fun _ _ _ h => h) (Or.inl ⟨by rfl, ?hy⟩) (by assumption) ?_
  case hy => (intro w hSw; (try dsimp only at hSw); go_simp; all_goals with_reducible rfl)
  try simp only [Act.put, List.setIfInBounds_toArray, List.set_cons_zero, List.set_cons_succ]
  refine wpAnyH_ready (rs := [0, 1]) (by kernel_rfl) (by simp) ?_
  refine AllReadyH.cons (by simp only [List.getElem?_toArray, List.getElem?_cons_succ, List.getElem?_cons_zero]; first | done | rfl) (fun K hK => ?_) ?_
  · go_simp
    (first | (go_at_call 12; refine (public_any _ _ (by omega) (by omega)).mono ?_; rintro e w2 ⟨rfl, n2, rfl⟩; (try rw [pub0]); (try rw [pub1])) | (go_at_call 13; refine (check_any _ _ _ _ _ _ (by omega) (by omega) (by omega) (by omega) (by omega) (by omega) (by first | exact rd_marked _ 109 _ | exact rd_marked _ 110 _ | exact rd_drewN (rd_marked _ 109 _) _ | exact rd_drewN (rd_marked _ 110 _) _) (by decide)).mono ?_; rintro e w2 ⟨rfl, hb2⟩; (first | rw [HM.out] | rw [HN.out] | rw [unit0]); have HB' := Lib.hid (bl_bl (by repeat (first | exact HB.out | apply bl_drew | apply bl_drewN | apply bl_alloc)) hb2); have HS' := Lib.hid (SA.below (by repeat (first | exact HS.out | apply SA.drew | apply SA.drewN | apply SA.alloc)) hb2); clear hb2; have HB := HB'; have HS := HS'; clear HB' HS') | (go_at_call 14; refine (put_any _ _ _ (by omega) (by omega) (by omega) (by omega)).mono ?_; rintro e w2 ⟨u2, rfl, hu2, hb2⟩; obtain ⟨a2, c2, rfl⟩ := hu2.rd.shape; rw [putF_len]; have HB' := Lib.hid (bl_bl (by repeat (first | exact HB.out | apply bl_drew | apply bl_drewN | apply bl_alloc)) hb2); have HS' := Lib.hid (SA.below (by repeat (first | exact HS.out | apply SA.drew | apply SA.drewN | apply SA.alloc)) hb2); clear hb2 hu2; have HB := HB'; have HS := HS'; clear HB' HS'))
    refine hK.out _ _ ?_ (fun hHeld => ?_)
    · (try dsimp only); (first | (refine SA.cells ?_; repeat (first | exact HS.out | apply SA.drew | apply SA.drewN | apply SA.alloc)))
    clear hK K 
    try simp only [Act.put, List.setIfInBounds_toArray, List.set_cons_zero, List.set_cons_succ]
    refine wpAnyH_ready (rs := [1]) (by kernel_rfl) (by simp) ?_
    refine AllReadyH.cons (by simp only [List.getElem?_toArray, List.getElem?_cons_succ, List.getElem?_cons_zero]; first | done | rfl) (fun K hK => ?_) ?_
    · go_simp
      refine hK.out _ _ ?_ (fun hHeld => ?_)
      · (try dsimp only); (first | (refine SA.cells ?_; repeat (first | exact HS.out | apply SA.drew | apply SA.drewN | apply SA.alloc)))
      clear hK K 
      try simp only [Act.put, List.setIfInBounds_toArray, List.set_cons_zero, List.set_cons_succ]
      refine wpAnyH_ready (rs := [2]) (by kernel_rfl) (by simp) ?_
      refine AllReadyH.cons (by simp only [List.getElem?_toArray, List.getElem?_cons_succ, List.getElem?_cons_zero]; first | done | rfl) (fun K hK => ?_) ?_
      · go_simp
        refine hK.out _ _ ?_ (fun hHeld => ?_)
        · (try dsimp only); (first | (refine SA.cells ?_; repeat (first | exact HS.out | apply SA.drew | apply SA.drewN | apply SA.alloc)))
        clear hK K 
        try simp only [Act.put, List.setIfInBounds_toArray, List.set_cons_zero, List.set_cons_succ]
        refine wpAnyH_ready (rs := [4]) (by kernel_rfl) (by simp) ?_
        refine AllReadyH.cons (by simp only [List.getElem?_toArray, List.getElem?_cons_succ, List.getElem?_cons_zero]; first | done | rfl) (fun K hK => ?_) ?_
        · go_simp
          (first | (go_at_call 12; refine (public_any _ _ (by omega) (by omega)).mono ?_; rintro e w2 ⟨rfl, n2, rfl⟩; (try rw [pub0]); (try rw [pub1])) | (go_at_call 13; refine (check_any _ _ _ _ _ _ (by omega) (by omega) (by omega) (by omega) (by omega) (by omega) (by first | exact rd_marked _ 109 _ | exact rd_marked _ 110 _ | exact rd_drewN (rd_marked _ 109 _) _ | exact rd_drewN (rd_marked _ 110 _) _) (by decide)).mono ?_; rintro e w2 ⟨rfl, hb2⟩; (first | rw [HM.out] | rw [HN.out] | rw [unit0]); have HB' := Lib.hid (bl_bl (by repeat (first | exact HB.out | apply bl_drew | apply bl_drewN | apply bl_alloc)) hb2); have HS' := Lib.hid (SA.below (by repeat (first | exact HS.out | apply SA.drew | apply SA.drewN | apply SA.alloc)) hb2); clear hb2; have HB := HB'; have HS := HS'; clear HB' HS') | (go_at_call 14; refine (put_any _ _ _ (by omega) (by omega) (by omega) (by omega)).mono ?_; rintro e w2 ⟨u2, rfl, hu2, hb2⟩; obtain ⟨a2, c2, rfl⟩ := hu2.rd.shape; rw [putF_len]; have HB' := Lib.hid (bl_bl (by repeat (first | exact HB.out | apply bl_drew | apply bl_drewN | apply bl_alloc)) hb2); have HS' := Lib.hid (SA.below (by repeat (first | exact HS.out | apply SA.drew | apply SA.drewN | apply SA.alloc)) hb2); clear hb2 hu2; have HB := HB'; have HS := HS'; clear HB' HS'))
          refine hK.out _ _ ?_ (fun hHeld => ?_)
          · (try dsimp only); (first | (refine SA.cells ?_; repeat (first | exact HS.out | apply SA.drew | apply SA.drewN | apply SA.alloc)))
          clear hK K 
          try simp only [Act.put, List.setIfInBounds_toArray, List.set_cons_zero, List.set_cons_succ]
          refine wpAnyH_take (i := 5) (v := ?_) (by simp only [List.getElem?_toArray, List.getElem?_cons_succ, List.getElem?_cons_zero]; first | done | rfl) (by kernel_rfl) (by kernel_rfl) (by kernel_rfl) (fun _ _ _ h => h) (Or.inl ⟨by rfl, ?hy⟩) (by assumption) ?_
          case hy => (intro w hSw; (try dsimp only at hSw); go_simp; all_goals with_reducible rfl)
          try simp only [Act.put, List.setIfInBounds_toArray, List.set_cons_zero, List.set_cons_succ]
          refine wpAnyH_take (i := 9) (v := ?_) (by simp only [List.getElem?_toArray, List.getElem?_cons_succ, List.getElem?_cons_zero]; first | done | rfl) (by kernel_rfl) (by kernel_rfl) (by kernel_rfl) (fun _ _ _ h => h) (Or.inl ⟨by rfl, ?hy⟩) (by assumption) ?_
          case hy => (intro w hSw; (try dsimp only at hSw); go_simp; all_goals with_reducible rfl)
          try simp only [Act.put, List.setIfInBounds_toArray, List.set_cons_zero, List.set_cons_succ]
          refine wpAnyH_ready (rs := [6, 7]) (by kernel_rfl) (by simp) ?_
          refine AllReadyH.cons (by simp only [List.getElem?_toArray, List.getElem?_cons_succ, List.getElem?_cons_zero]; first | done | rfl) (fun K hK => ?_) ?_
          · go_simp
            (first | (go_at_call 12; refine (public_any _ _ (by omega) (by omega)).mono ?_; rintro e w2 ⟨rfl, n2, rfl⟩; (try rw [pub0]); (try rw [pub1])) | (go_at_call 13; refine (check_any _ _ _ _ _ _ (by omega) (by omega) (by omega) (by omega) (by omega) (by omega) (by first | exact rd_marked _ 109 _ | exact rd_marked _ 110 _ | exact rd_drewN (rd_marked _ 109 _) _ | exact rd_drewN (rd_marked _ 110 _) _) (by decide)).mono ?_; rintro e w2 ⟨rfl, hb2⟩; (first | rw [HM.out] | rw [HN.out] | rw [unit0]); have HB' := Lib.hid (bl_bl (by repeat (first | exact HB.out | apply bl_drew | apply bl_drewN | apply bl_alloc)) hb2); have HS' := Lib.hid (SA.below (by repeat (first | exact HS.out | apply SA.drew | apply SA.drewN | apply SA.alloc)) hb2); clear hb2; have HB := HB'; have HS := HS'; clear HB' HS') | (go_at_call 14; refine (put_any _ _ _ (by omega) (by omega) (by omega) (by omega)).mono ?_; rintro e w2 ⟨u2, rfl, hu2, hb2⟩; obtain ⟨a2, c2, rfl⟩ := hu2.rd.shape; rw [putF_len]; have HB' := Lib.hid (bl_bl (by repeat (first | exact HB.out | apply bl_drew | apply bl_drewN | apply bl_alloc)) hb2); have HS' := Lib.hid (SA.below (by repeat (first | exact HS.out | apply SA.drew | apply SA.drewN | apply SA.alloc)) hb2); clear hb2 hu2; have HB := HB'; have HS := HS'; clear HB' HS'))
            refine hK.out _ _ ?_ (fun hHeld => ?_)
            · (try dsimp only); (first | (refine SA.cells ?_; repeat (first | exact HS.out | apply SA.drew | apply SA.drewN | apply SA.alloc)))
            clear hK K 
            try simp only [Act.put, List.setIfInBounds_toArray, List.set_cons_zero, List.set_cons_succ]
            refine wpAnyH_ready (rs := [7]) (by kernel_rfl) (by simp) ?_
            refine AllReadyH.cons (by simp only [List.getElem?_toArray, List.getElem?_cons_succ, List.getElem?_cons_zero]; first | done | rfl) (fun K hK => ?_) ?_
            · go_simp
              refine hK.out _ _ ?_ (fun hHeld => ?_)
              · (try dsimp only); (first | (refine SA.cells ?_; repeat (first | exact HS.out | apply SA.drew | apply SA.drewN | apply SA.alloc)))
              clear hK K 
              try simp only [Act.put, List.setIfInBounds_toArray, List.set_cons_zero, List.set_cons_succ]
              refine wpAnyH_ready (rs := [8]) (by kernel_rfl) (by simp) ?_
              refine AllReadyH.cons (by simp only [List.getElem?_toArray, List.getElem?_cons_succ, List.getElem?_cons_zero]; first | done | rfl) (fun K hK => ?_) ?_
              · go_simp
                refine hK.out _ _ ?_ (fun hHeld => ?_)
                · (try dsimp only); (first | (refine SA.cells ?_; repeat (first | exact HS.out | apply SA.drew | apply SA.drewN | apply SA.alloc)))
                clear hK K 
                try simp only [Act.put, List.setIfInBounds_toArray, List.set_cons_zero, List.set_cons_succ]
                refine wpAnyH_ready (rs := [10]) (by kernel_rfl) (by simp) ?_
                refine AllReadyH.cons (by simp only [List.getElem?_toArray, List.getElem?_cons_succ, List.getElem?_cons_zero]; first | done | rfl) (fun K hK => ?_) ?_
                · go_simp
                  (first | (go_at_call 12; refine (public_any _ _ (by omega) (by omega)).mono ?_; rintro e w2 ⟨rfl, n2, rfl⟩; (try rw [pub0]); (try rw [pub1])) | (go_at_call 13; refine (check_any _ _ _ _ _ _ (by omega) (by omega) (by omega) (by omega) (by omega) (by omega) (by first | exact rd_marked _ 109 _ | exact rd_marked _ 110 _ | exact rd_drewN (rd_marked _ 109 _) _ | exact rd_drewN (rd_marked _ 110 _) _) (by decide)).mono ?_; rintro e w2 ⟨rfl, hb2⟩; (first | rw [HM.out] | rw [HN.out] | rw [unit0]); have HB' := Lib.hid (bl_bl (by repeat (first | exact HB.out | apply bl_drew | apply bl_drewN | apply bl_alloc)) hb2); have HS' := Lib.hid (SA.below (by repeat (first | exact HS.out | apply SA.drew | apply SA.drewN | apply SA.alloc)) hb2); clear hb2; have HB := HB'; have HS := HS'; clear HB' HS') | (go_at_call 14; refine (put_any _ _ _ (by omega) (by omega) (by omega) (by omega)).mono ?_; rintro e w2 ⟨u2, rfl, hu2, hb2⟩; obtain ⟨a2, c2, rfl⟩ := hu2.rd.shape; rw [putF_len]; have HB' := Lib.hid (bl_bl (by repeat (first | exact HB.out | apply bl_drew | apply bl_drewN | apply bl_alloc)) hb2); have HS' := Lib.hid (SA.below (by repeat (first | exact HS.out | apply SA.drew | apply SA.drewN | apply SA.alloc)) hb2); clear hb2 hu2; have HB := HB'; have HS := HS'; clear HB' HS'))
                  refine hK.out _ _ ?_ (fun hHeld => ?_)
                  · (try dsimp only); (first | (refine SA.cells ?_; repeat (first | exact HS.out | apply SA.drew | apply SA.drewN | apply SA.alloc)))
                  clear hK K 
                  try simp only [Act.put, List.setIfInBounds_toArray, List.set_cons_zero, List.set_cons_succ]
                  refine wpAnyH_take (i := 11) (v := ?_) (by simp only [List.getElem?_toArray, List.getElem?_cons_succ, List.getElem?_cons_zero]; first | done | rfl) (by kernel_rfl) (by kernel_rfl) (by kernel_rfl) (fun _ _ _ h => h) (Or.inl ⟨by rfl, ?hy⟩) (by assumption) ?_
                  case hy => (intro w hSw; (try dsimp only at hSw); go_simp; all_goals with_reducible rfl)
                  try simp only [Act.put, List.setIfInBounds_toArray, List.set_cons_zero, List.set_cons_succ]
                  refine wpAnyH_take (i := 12) (v := ?_) (by simp only [List.getElem?_toArray, List.getElem?_cons_succ, List.getElem?_cons_zero]; first | done | rfl) (by kernel_rfl) (by kernel_rfl) (by kernel_rfl) (fun _ _ _ h => h) (Or.inl ⟨by rfl, ?hy⟩) (by assumption) ?_
                  case hy => (intro w hSw; (try dsimp only at hSw); go_simp; all_goals with_reducible rfl)
                  try simp only [Act.put, List.setIfInBounds_toArray, List.set_cons_zero, List.set_cons_succ]
                  refine wpAnyH_take (i := 13) (v := ?_) (by simp only [List.getElem?_toArray, List.getElem?_cons_succ, List.getElem?_cons_zero]; first | done | rfl) (by kernel_rfl) (by kernel_rfl) (by kernel_rfl) (fun _ _ _ h => h) (Or.inl ⟨by rfl, ?hy⟩) (by assumption) ?_
                  case hy => (intro w hSw; (try dsimp only at hSw); go_simp; all_goals with_reducible rfl)
                  try simp only [Act.put, List.setIfInBounds_toArray, List.set_cons_zero, List.set_cons_succ]
                  refine wpAnyH_take (i := 16) (v := ?_) (by simp only [List.getElem?_toArray, List.getElem?_cons_succ, List.getElem?_cons_zero]; first | done | rfl) (by kernel_rfl) (by kernel_rfl) (by kernel_rfl) (fun _ _ _ h => h) (Or.inl ⟨by rfl, ?hy⟩) (by assumption) ?_
                  case hy => (intro w hSw; (try dsimp only at hSw); go_simp; all_goals with_reducible rfl)
                  try simp only [Act.put, List.setIfInBounds_toArray, List.set_cons_zero, List.set_cons_succ]
                  refine wpAnyH_ready (rs := [14]) (by kernel_rfl) (by simp) ?_
                  refine AllReadyH.cons (by simp only [List.getElem?_toArray, List.getElem?_cons_succ, List.getElem?_cons_zero]; first | done | rfl) (fun K hK => ?_) ?_
                  · go_simp
                    refine hK.out _ _ ?_ (fun hHeld => ?_)
                    · (try dsimp only); (first | (refine SA.cells ?_; repeat (first | exact HS.out | apply SA.drew | apply SA.drewN | apply SA.alloc)))
                    clear hK K 
                    try simp only [Act.put, List.setIfInBounds_toArray, List.set_cons_zero, List.set_cons_succ]
                    refine wpAnyH_ready (rs := [15]) (by kernel_rfl) (by simp) ?_
                    refine AllReadyH.cons (by simp only [List.getElem?_toArray, List.getElem?_cons_succ, List.getElem?_cons_zero]; first | done | rfl) (fun K hK => ?_) ?_
                    · go_simp
                      refine hK.out _ _ ?_ (fun hHeld => ?_)
                      · (try dsimp only); (first | (refine SA.cells ?_; repeat (first | exact HS.out | apply SA.drew | apply SA.drewN | apply SA.alloc)))
                      clear hK K 
                      try simp only [Act.put, List.setIfInBounds_toArray, List.set_cons_zero, List.set_cons_succ]
                      refine wpAnyH_ready (rs := [17]) (by kernel_rfl) (by simp) ?_
                      refine AllReadyH.cons (by simp only [List.getElem?_toArray, List.getElem?_cons_succ, List.getElem?_cons_zero]; first | done | rfl) (fun K hK => ?_) ?_
                      · go_simp
                        (first | (go_at_call 12; refine (public_any _ _ (by omega) (by omega)).mono ?_; rintro e w2 ⟨rfl, n2, rfl⟩; (try rw [pub0]); (try rw [pub1])) | (go_at_call 13; refine (check_any _ _ _ _ _ _ (by omega) (by omega) (by omega) (by omega) (by omega) (by omega) (by first | exact rd_marked _ 109 _ | exact rd_marked _ 110 _ | exact rd_drewN (rd_marked _ 109 _) _ | exact rd_drewN (rd_marked _ 110 _) _) (by decide)).mono ?_; rintro e w2 ⟨rfl, hb2⟩; (first | rw [HM.out] | rw [HN.out] | rw [unit0]); have HB' := Lib.hid (bl_bl (by repeat (first | exact HB.out | apply bl_drew | apply bl_drewN | apply bl_alloc)) hb2); have HS' := Lib.hid (SA.below (by repeat (first | exact HS.out | apply SA.drew | apply SA.drewN | apply SA.alloc)) hb2); clear hb2; have HB := HB'; have HS := HS'; clear HB' HS') | (go_at_call 14; refine (put_any _ _ _ (by omega) (by omega) (by omega) (by omega)).mono ?_; rintro e w2 ⟨u2, rfl, hu2, hb2⟩; obtain ⟨a2, c2, rfl⟩ := hu2.rd.shape; rw [putF_len]; have HB' := Lib.hid (bl_bl (by repeat (first | exact HB.out | apply bl_drew | apply bl_drewN | apply bl_alloc)) hb2); have HS' := Lib.hid (SA.below (by repeat (first | exact HS.out | apply SA.drew | apply SA.drewN | apply SA.alloc)) hb2); clear hb2 hu2; have HB := HB'; have HS := HS'; clear HB' HS'))
                        refine hK.out _ _ ?_ (fun hHeld => ?_)
                        · (try dsimp only); (first | (refine SA.cells ?_; repeat (first | exact HS.out | apply SA.drew | apply SA.drewN | apply SA.alloc)))
                        clear hK K 
                        try simp only [Act.put, List.setIfInBounds_toArray, List.set_cons_zero, List.set_cons_succ]
                        refine wpAnyH_take (i := 18) (v := ?_) (by simp only [List.getElem?_toArray, List.getElem?_cons_succ, List.getElem?_cons_zero]; first | done | rfl) (by kernel_rfl) (by kernel_rfl) (by kernel_rfl) (fun _ _ _ h => h) (Or.inl ⟨by rfl, ?hy⟩) (by assumption) ?_
                        case hy => (intro w hSw; (try dsimp only at hSw); go_simp; all_goals with_reducible rfl)
                        try simp only [Act.put, List.setIfInBounds_toArray, List.set_cons_zero, List.set_cons_succ]
                        refine wpAnyH_take (i := 19) (v := ?_) (by simp only [List.getElem?_toArray, List.getElem?_cons_succ, List.getElem?_cons_zero]; first | done | rfl) (by kernel_rfl) (by kernel_rfl) (by kernel_rfl) (fun _ _ _ h => h) (Or.inl ⟨by rfl, ?hy⟩) (by assumption) ?_
                        case hy => (intro w hSw; (try dsimp only at hSw); go_simp; all_goals with_reducible rfl)
                        try simp only [Act.put, List.setIfInBounds_toArray, List.set_cons_zero, List.set_cons_succ]
                        refine wpAnyH_take (i := 20) (v := ?_) (by simp only [List.getElem?_toArray, List.getElem?_cons_succ, List.getElem?_cons_zero]; first | done | rfl) (by kernel_rfl) (by kernel_rfl) (by kernel_rfl) (fun _ _ _ h => h) (Or.inl ⟨by rfl, ?hy⟩) (by assumption) ?_
                        case hy => (intro w hSw; (try dsimp only at hSw); go_simp; all_goals with_reducible rfl)
                        try simp only [Act.put, List.setIfInBounds_toArray, List.set_cons_zero, List.set_cons_succ]
                        refine wpAnyH_ready (rs := [21]) (by kernel_rfl) (by simp) ?_
                        refine AllReadyH.cons (by simp only [List.getElem?_toArray, List.getElem?_cons_succ, List.getElem?_cons_zero]; first | done | rfl) (fun K hK => ?_) ?_
                        · go_simp
                          (first | (go_at_call 12; refine (public_any _ _ (by omega) (by omega)).mono ?_; rintro e w2 ⟨rfl, n2, rfl⟩; (try rw [pub0]); (try rw [pub1])) | (go_at_call 13; refine (check_any _ _ _ _ _ _ (by omega) (by omega) (by omega) (by omega) (by omega) (by omega) (by first | exact rd_marked _ 109 _ | exact rd_marked _ 110 _ | exact rd_drewN (rd_marked _ 109 _) _ | exact rd_drewN (rd_marked _ 110 _) _) (by decide)).mono ?_; rintro e w2 ⟨rfl, hb2⟩; (first | rw [HM.out] | rw [HN.out] | rw [unit0]); have HB' := Lib.hid (bl_bl (by repeat (first | exact HB.out | apply bl_drew | apply bl_drewN | apply bl_alloc)) hb2); have HS' := Lib.hid (SA.below (by repeat (first | exact HS.out | apply SA.drew | apply SA.drewN | apply SA.alloc)) hb2); clear hb2; have HB := HB'; have HS := HS'; clear HB' HS') | (go_at_call 14; refine (put_any _ _ _ (by omega) (by omega) (by omega) (by omega)).mono ?_; rintro e w2 ⟨u2, rfl, hu2, hb2⟩; obtain ⟨a2, c2, rfl⟩ := hu2.rd.shape; rw [putF_len]; have HB' := Lib.hid (bl_bl (by repeat (first | exact HB.out | apply bl_drew | apply bl_drewN | apply bl_alloc)) hb2); have HS' := Lib.hid (SA.below (by repeat (first | exact HS.out | apply SA.drew | apply SA.drewN | apply SA.alloc)) hb2); clear hb2 hu2; have HB := HB'; have HS := HS'; clear HB' HS'))
                          refine hK.out _ _ ?_ (fun hHeld => ?_)
                          · (try dsimp only); (first | (refine SA.cells ?_; repeat (first | exact HS.out | apply SA.drew | apply SA.drewN | apply SA.alloc)))
                          clear hK K 
                          try simp only [Act.put, List.setIfInBounds_toArray, List.set_cons_zero, List.set_cons_succ]
                          refine wpAnyH_take (i := 22) (v := ?_) (by simp only [List.getElem?_toArray, List.getElem?_cons_succ, List.getElem?_cons_zero]; first | done | rfl) (by kernel_rfl) (by kernel_rfl) (by kernel_rfl) (fun _ _ _ h => h) (Or.inl ⟨by rfl, ?hy⟩) (by assumption) ?_
                          case hy => (intro w hSw; (try dsimp only at hSw); go_simp; all_goals with_reducible rfl)
                          try simp only [Act.put, List.setIfInBounds_toArray, List.set_cons_zero, List.set_cons_succ]
                          refine wpAnyH_take (i := 23) (v := ?_) (by simp only [List.getElem?_toArray, List.getElem?_cons_succ, List.getElem?_cons_zero]; first | done | rfl) (by kernel_rfl) (by kernel_rfl) (by kernel_rfl) (fun _ _ _ h => h) (Or.inl ⟨by rfl, ?hy⟩) (by assumption) ?_
                          case hy => (intro w hSw; (try dsimp only at hSw); go_simp; all_goals with_reducible rfl)
                          try simp only [Act.put, List.setIfInBounds_toArray, List.set_cons_zero, List.set_cons_succ]
                          refine wpAnyH_take (i := 24) (v := ?_) (by simp only [List.getElem?_toArray, List.getElem?_cons_succ, List.getElem?_cons_zero]; first | done | rfl) (by kernel_rfl) (by kernel_rfl) (by kernel_rfl) (fun _ _ _ h => h) (Or.inl ⟨by rfl, ?hy⟩) (by assumption) ?_
                          case hy => (intro w hSw; (try dsimp only at hSw); go_simp; all_goals with_reducible rfl)
                          try simp only [Act.put, List.setIfInBounds_toArray, List.set_cons_zero, List.set_cons_succ]
                          refine wpAnyH_ready (rs := [25]) (by kernel_rfl) (by simp) ?_
                          refine AllReadyH.cons (by simp only [List.getElem?_toArray, List.getElem?_cons_succ, List.getElem?_cons_zero]; first | done | rfl) (fun K hK => ?_) ?_
                          · go_simp
                            (first | (go_at_call 12; refine (public_any _ _ (by omega) (by omega)).mono ?_; rintro e w2 ⟨rfl, n2, rfl⟩; (try rw [pub0]); (try rw [pub1])) | (go_at_call 13; refine (check_any _ _ _ _ _ _ (by omega) (by omega) (by omega) (by omega) (by omega) (by omega) (by first | exact rd_marked _ 109 _ | exact rd_marked _ 110 _ | exact rd_drewN (rd_marked _ 109 _) _ | exact rd_drewN (rd_marked _ 110 _) _) (by decide)).mono ?_; rintro e w2 ⟨rfl, hb2⟩; (first | rw [HM.out] | rw [HN.out] | rw [unit0]); have HB' := Lib.hid (bl_bl (by repeat (first | exact HB.out | apply bl_drew | apply bl_drewN | apply bl_alloc)) hb2); have HS' := Lib.hid (SA.below (by repeat (first | exact HS.out | apply SA.drew | apply SA.drewN | apply SA.alloc)) hb2); clear hb2; have HB := HB'; have HS := HS'; clear HB' HS') | (go_at_call 14; refine (put_any _ _ _ (by omega) (by omega) (by omega) (by omega)).mono ?_; rintro e w2 ⟨u2, rfl, hu2, hb2⟩; obtain ⟨a2, c2, rfl⟩ := hu2.rd.shape; rw [putF_len]; have HB' := Lib.hid (bl_bl (by repeat (first | exact HB.out | apply bl_drew | apply bl_drewN | apply bl_alloc)) hb2); have HS' := Lib.hid (SA.below (by repeat (first | exact HS.out | apply SA.drew | apply SA.drewN | apply SA.alloc)) hb2); clear hb2 hu2; have HB := HB'; have HS := HS'; clear HB' HS'))
                            refine hK.out _ _ ?_ (fun hHeld => ?_)
                            · (try dsimp only); (first | (refine SA.cells ?_; repeat (first | exact HS.out | apply SA.drew | apply SA.drewN | apply SA.alloc)))
                            clear hK K 
                            try simp only [Act.put, List.setIfInBounds_toArray, List.set_cons_zero, List.set_cons_succ]
                            refine wpAnyH_take (i := 26) (v := ?_) (by simp only [List.getElem?_toArray, List.getElem?_cons_succ, List.getElem?_cons_zero]; first | done | rfl) (by kernel_rfl) (by kernel_rfl) (by kernel_rfl) (fun _ _ _ h => h) (Or.inl ⟨by rfl, ?hy⟩) (by assumption) ?_
                            case hy => (intro w hSw; (try dsimp only at hSw); go_simp; all_goals with_reducible rfl)
                            try simp only [Act.put, List.setIfInBounds_toArray, List.set_cons_zero, List.set_cons_succ]
                            refine wpAnyH_take (i := 27) (v := ?_) (by simp only [List.getElem?_toArray, List.getElem?_cons_succ, List.getElem?_cons_zero]; first | done | rfl) (by kernel_rfl) (by kernel_rfl) (by kernel_rfl) (fun _ _ _ h => h) (Or.inl ⟨by rfl, ?hy⟩) (by assumption) ?_
                            case hy => (intro w hSw; (try dsimp only at hSw); go_simp; all_goals with_reducible rfl)
                            try simp only [Act.put, List.setIfInBounds_toArray, List.set_cons_zero, List.set_cons_succ]
                            refine wpAnyH_take (i := 28) (v := ?_) (by simp only [List.getElem?_toArray, List.getElem?_cons_succ, List.getElem?_cons_zero]; first | done | rfl) (by kernel_rfl) (by kernel_rfl) (by kernel_rfl) (fun _ _ _ h => h) (Or.inl ⟨by rfl, ?hy⟩) (by assumption) ?_
                            case hy => (intro w hSw; (try dsimp only at hSw); go_simp; all_goals with_reducible rfl)
                            try simp only [Act.put, List.setIfInBounds_toArray, List.set_cons_zero, List.set_cons_succ]
                            refine wpAnyH_take (i := 29) (v := ?_) (by simp only [List.getElem?_toArray, List.getElem?_cons_succ, List.getElem?_cons_zero]; first | done | rfl) (by kernel_rfl) (by kernel_rfl) (by kernel_rfl) (fun _ _ _ h => h) (Or.inl ⟨by rfl, ?hy⟩) (by assumption) ?_
                            case hy => (intro w hSw; (try dsimp only at hSw); go_simp; all_goals with_reducible rfl)
                            try simp only [Act.put, List.setIfInBounds_toArray, List.set_cons_zero, List.set_cons_succ]
                            refine wpAnyH_ready (rs := [30]) (by kernel_rfl) (by simp) ?_
                            refine AllReadyH.cons (by simp only [List.getElem?_toArray, List.getElem?_cons_succ, List.getElem?_cons_zero]; first | done | rfl) (fun K hK => ?_) ?_
                            · go_simp
                              (first | (go_at_call 12; refine (public_any _ _ (by omega) (by omega)).mono ?_; rintro e w2 ⟨rfl, n2, rfl⟩; (try rw [pub0]); (try rw [pub1])) | (go_at_call 13; refine (check_any _ _ _ _ _ _ (by omega) (by omega) (by omega) (by omega) (by omega) (by omega) (by first | exact rd_marked _ 109 _ | exact rd_marked _ 110 _ | exact rd_drewN (rd_marked _ 109 _) _ | exact rd_drewN (rd_marked _ 110 _) _) (by decide)).mono ?_; rintro e w2 ⟨rfl, hb2⟩; (first | rw [HM.out] | rw [HN.out] | rw [unit0]); have HB' := Lib.hid (bl_bl (by repeat (first | exact HB.out | apply bl_drew | apply bl_drewN | apply bl_alloc)) hb2); have HS' := Lib.hid (SA.below (by repeat (first | exact HS.out | apply SA.drew | apply SA.drewN | apply SA.alloc)) hb2); clear hb2; have HB := HB'; have HS := HS'; clear HB' HS') | (go_at_call 14; refine (put_any _ _ _ (by omega) (by omega) (by omega) (by omega)).mono ?_; rintro e w2 ⟨u2, rfl, hu2, hb2⟩; obtain ⟨a2, c2, rfl⟩ := hu2.rd.shape; rw [putF_len]; have HB' := Lib.hid (bl_bl (by repeat (first | exact HB.out | apply bl_drew | apply bl_drewN | apply bl_alloc)) hb2); have HS' := Lib.hid (SA.below (by repeat (first | exact HS.out | apply SA.drew | apply SA.drewN | apply SA.alloc)) hb2); clear hb2 hu2; have HB := HB'; have HS := HS'; clear HB' HS'))
                              refine hK.out _ _ ?_ (fun hHeld => ?_)
                              · (try dsimp only); (first | (refine SA.cells ?_; repeat (first | exact HS.out | apply SA.drew | apply SA.drewN | apply SA.alloc)))
                              clear hK K 
                              try simp only [Act.put, List.setIfInBounds_toArray, List.set_cons_zero, List.set_cons_succ]
                              refine wpAnyH_take (i := 31) (v := ?_) (by simp only [List.getElem?_toArray, List.getElem?_cons_succ, List.getElem?_cons_zero]; first | done | rfl) (by kernel_rfl) (by kernel_rfl) (by kernel_rfl) (fun _ _ _ h => h) (Or.inl ⟨by rfl, ?hy⟩) (by assumption) ?_
                              case hy => (intro w hSw; (try dsimp only at hSw); go_simp; all_goals with_reducible rfl)
                              try simp only [Act.put, List.setIfInBounds_toArray, List.set_cons_zero, List.set_cons_succ]
                              refine wpAnyH_take (i := 32) (v := ?_) (by simp only [List.getElem?_toArray, List.getElem?_cons_succ, List.getElem?_cons_zero]; first | done | rfl) (by kernel_rfl) (by kernel_rfl) (by kernel_rfl) (fun _ _ _ h => h) (Or.inl ⟨by rfl, ?hy⟩) (by assumption) ?_
                              case hy => (intro w hSw; (try dsimp only at hSw); go_simp; all_goals with_reducible rfl)
                              try simp only [Act.put, List.setIfInBounds_toArray, List.set_cons_zero, List.set_cons_succ]
                              refine wpAnyH_take (i := 33) (v := ?_) (by simp only [List.getElem?_toArray, List.getElem?_cons_succ, List.getElem?_cons_zero]; first | done | rfl) (by kernel_rfl) (by kernel_rfl) (by kernel_rfl) (fun _ _ _ h => h) (Or.inl ⟨by rfl, ?hy⟩) (by assumption) ?_
                              case hy => (intro w hSw; (try dsimp only at hSw); go_simp; all_goals with_reducible rfl)
                              try simp only [Act.put, List.setIfInBounds_toArray, List.set_cons_zero, List.set_cons_succ]
                              refine wpAnyH_take (i := 34) (v := ?_) (by simp only [List.getElem?_toArray, List.getElem?_cons_succ, List.getElem?_cons_zero]; first | done | rfl) (by kernel_rfl) (by kernel_rfl) (by kernel_rfl) (fun _ _ _ h => h) (Or.inl ⟨by rfl, ?hy⟩) (by assumption) ?_
                              case hy => (intro w hSw; (try dsimp only at hSw); go_simp; all_goals with_reducible rfl)
                              try simp only [Act.put, List.setIfInBounds_toArray, List.set_cons_zero, List.set_cons_succ]
                              refine wpAnyH_done (by kernel_rfl) ?_ _
                              (refine NoPanic.normal ?_; go_wp2_with fail; go_ret; exact ⟨rfl, HB.out⟩)
                            exact AllReadyH.nil
                          exact AllReadyH.nil
                        exact AllReadyH.nil
                      exact AllReadyH.nil
                    exact AllReadyH.nil
                  exact AllReadyH.nil
                exact AllReadyH.nil
              exact AllReadyH.nil
            exact AllReadyH.nil
          refine AllReadyH.cons (by simp only [List.getElem?_toArray, List.getElem?_cons_succ, List.getElem?_cons_zero]; first | done | rfl) (fun K hK => ?_) ?_
          · go_simp
            refine hK.out _ _ ?_ (fun hHeld => ?_)
            · (try dsimp only); (first | (refine SA.cells ?_; repeat (first | exact HS.out | apply SA.drew | apply SA.drewN | apply SA.alloc)))
            clear hK K 
            try simp only [Act.put, List.setIfInBounds_toArray, List.set_cons_zero, List.set_cons_succ]
            refine wpAnyH_ready (rs := [6, 8]) (by kernel_rfl) (by simp) ?_
            refine AllReadyH.cons (by simp only [List.getElem?_toArray, List.getElem?_cons_succ, List.getElem?_cons_zero]; first | done | rfl) (fun K hK => ?_) ?_
            · go_simp
              (first | (go_at_call 12; refine (public_any _ _ (by omega) (by omega)).mono ?_; rintro e w2 ⟨rfl, n2, rfl⟩; (try rw [pub0]); (try rw [pub1])) | (go_at_call 13; refine (check_any _ _ _ _ _ _ (by omega) (by omega) (by omega) (by omega) (by omega) (by omega) (by first | exact rd_marked _ 109 _ | exact rd_marked _ 110 _ | exact rd_drewN (rd_marked _ 109 _) _ | exact rd_drewN (rd_marked _ 110 _) _) (by decide)).mono ?_; rintro e w2 ⟨rfl, hb2⟩; (first | rw [HM.out] | rw [HN.out] | rw [unit0]); have HB' := Lib.hid (bl_bl (by repeat (first | exact HB.out | apply bl_drew | apply bl_drewN | apply bl_alloc)) hb2); have HS' := Lib.hid (SA.below (by repeat (first | exact HS.out | apply SA.drew | apply SA.drewN | apply SA.alloc)) hb2); clear hb2; have HB := HB'; have HS := HS'; clear HB' HS') | (go_at_call 14; refine (put_any _ _ _ (by omega) (by omega) (by omega) (by omega)).mono ?_; rintro e w2 ⟨u2, rfl, hu2, hb2⟩; obtain ⟨a2, c2, rfl⟩ := hu2.rd.shape; rw [putF_len]; have HB' := Lib.hid (bl_bl (by repeat (first | exact HB.out | apply bl_drew | apply bl_drewN | apply bl_alloc)) hb2); have HS' := Lib.hid (SA.below (by repeat (first | exact HS.out | apply SA.drew | apply SA.drewN | apply SA.alloc)) hb2); clear hb2 hu2; have HB := HB'; have HS := HS'; clear HB' HS'))
              refine hK.out _ _ ?_ (fun hHeld => ?_)
              · (try dsimp only); (first | (refine SA.cells ?_; repeat (first | exact HS.out | apply SA.drew | apply SA.drewN | apply SA.alloc)))
              clear hK K 
              try simp only [Act.put, List.setIfInBounds_toArray, List.set_cons_zero, List.set_cons_succ]
              refine wpAnyH_ready (rs := [8]) (by kernel_rfl) (by simp) ?_
              refine AllReadyH.cons (by simp only [List.getElem?_toArray, List.getElem?_cons_succ, List.getElem?_cons_zero]; first | done | rfl) (fun K hK => ?_) ?_
              · go_simp
                refine hK.out _ _ ?_ (fun hHeld => ?_)
                · (try dsimp only); (first | (refine SA.cells ?_; repeat (first | exact HS.out | apply SA.drew | apply SA.drewN | apply SA.alloc)))
                clear hK K 
                try simp only [Act.put, List.setIfInBounds_toArray, List.set_cons_zero, List.set_cons_succ]
                refine wpAnyH_ready (rs := [10]) (by kernel_rfl) (by simp) ?_
                refine AllReadyH.cons (by simp only [List.getElem?_toArray, List.getElem?_cons_succ, List.getElem?_cons_zero]; first | done | rfl) (fun K hK => ?_) ?_
                · go_simp
                  (first | (go_at_call 12; refine (public_any _ _ (by omega) (by omega)).mono ?_; rintro e w2 ⟨rfl, n2, rfl⟩; (try rw [pub0]); (try rw [pub1])) | (go_at_call 13; refine (check_any _ _ _ _ _ _ (by omega) (by omega) (by omega) (by omega) (by omega) (by omega) (by first | exact rd_marked _ 109 _ | exact rd_marked _ 110 _ | exact rd_drewN (rd_marked _ 109 _) _ | exact rd_drewN (rd_marked _ 110 _) _) (by decide)).mono ?_; rintro e w2 ⟨rfl, hb2⟩; (first | rw [HM.out] | rw [HN.out] | rw [unit0]); have HB' := Lib.hid (bl_bl (by repeat (first | exact HB.out | apply bl_drew | apply bl_drewN | apply bl_alloc)) hb2); have HS' := Lib.hid (SA.below (by repeat (first | exact HS.out | apply SA.drew | apply SA.drewN | apply SA.alloc)) hb2); clear hb2; have HB := HB'; have HS := HS'; clear HB' HS') | (go_at_call 14; refine (put_any _ _ _ (by omega) (by omega) (by omega) (by omega)).mono ?_; rintro e w2 ⟨u2, rfl, hu2, hb2⟩; obtain ⟨a2, c2, rfl⟩ := hu2.rd.shape; rw [putF_len]; have HB' := Lib.hid (bl_bl (by repeat (first | exact HB.out | apply bl_drew | apply bl_drewN | apply bl_alloc)) hb2); have HS' := Lib.hid (SA.below (by repeat (first | exact HS.out | apply SA.drew | apply SA.drewN | apply SA.alloc)) hb2); clear hb2 hu2; have HB := HB'; have HS := HS'; clear HB' HS'))
                  refine hK.out _ _ ?_ (fun hHeld => ?_)
                  · (try dsimp only); (first | (refine SA.cells ?_; repeat (first | exact HS.out | apply SA.drew | apply SA.drewN | apply SA.alloc)))
                  clear hK K 
                  try simp only [Act.put, List.setIfInBounds_toArray, List.set_cons_zero, List.set_cons_succ]
                  refine wpAnyH_take (i := 11) (v := ?_) (by simp only [List.getElem?_toArray, List.getElem?_cons_succ, List.getElem?_cons_zero]; first | done | rfl) (by kernel_rfl) (by kernel_rfl) (by kernel_rfl) (fun _ _ _ h => h) (Or.inl ⟨by rfl, ?hy⟩) (by assumption) ?_
                  case hy => (intro w hSw; (try dsimp only at hSw); go_simp; all_goals with_reducible rfl)
                  try simp only [Act.put, List.setIfInBounds_toArray, List.set_cons_zero, List.set_cons_succ]
                  refine wpAnyH_take (i := 12) (v := ?_) (by simp only [List.getElem?_toArray, List.getElem?_cons_succ, List.getElem?_cons_zero]; first | done | rfl) (by kernel_rfl) (by kernel_rfl) (by kernel_rfl) (fun _ _ _ h => h) (Or.inl ⟨by rfl, ?hy⟩) (by assumption) ?_
                  case hy => (intro w hSw; (try dsimp only at hSw); go_simp; all_goals with_reducible rfl)
                  try simp only [Act.put, List.setIfInBounds_toArray, List.set_cons_zero, List.set_cons_succ]
                  refine wpAnyH_take (i := 13) (v := ?_) (by simp only [List.getElem?_toArray, List.getElem?_cons_succ, List.getElem?_cons_zero]; first | done | rfl) (by kernel_rfl) (by kernel_rfl) (by kernel_rfl) (fun _ _ _ h => h) (Or.inl ⟨by rfl, ?hy⟩) (by assumption) ?_
                  case hy => (intro w hSw; (try dsimp only at hSw); go_simp; all_goals with_reducible rfl)
                  try simp only [Act.put, List.setIfInBounds_toArray, List.set_cons_zero, List.set_cons_succ]
                  refine wpAnyH_take (i := 16) (v := ?_) (by simp only [List.getElem?_toArray, List.getElem?_cons_succ, List.getElem?_cons_zero]; first | done | rfl) (by kernel_rfl) (by kernel_rfl) (by kernel_rfl) (fun _ _ _ h => h) (Or.inl ⟨by rfl, ?hy⟩) (by assumption) ?_
                  case hy => (intro w hSw; (try dsimp only at hSw); go_simp; all_goals with_reducible rfl)
                  try simp only [Act.put, List.setIfInBounds_toArray, List.set_cons_zero, List.set_cons_succ]
                  refine wpAnyH_ready (rs := [14]) (by kernel_rfl) (by simp) ?_
                  refine AllReadyH.cons (by simp only [List.getElem?_toArray, List.getElem?_cons_succ, List.getElem?_cons_zero]; first | done | rfl) (fun K hK => ?_) ?_
                  · go_simp
                    refine hK.out _ _ ?_ (fun hHeld => ?_)
                    · (try dsimp only); (first | (refine SA.cells ?_; repeat (first | exact HS.out | apply SA.drew | apply SA.drewN | apply SA.alloc)))
                    clear hK K 
                    try simp only [Act.put, List.setIfInBounds_toArray, List.set_cons_zero, List.set_cons_succ]
                    refine wpAnyH_ready (rs := [15]) (by kernel_rfl) (by simp) ?_
                    refine AllReadyH.cons (by simp only [List.getElem?_toArray, List.getElem?_cons_succ, List.getElem?_cons_zero]; first | done | rfl) (fun K hK => ?_) ?_
                    · go_simp
                      refine hK.out _ _ ?_ (fun hHeld => ?_)
                      · (try dsimp only); (first | (refine SA.cells ?_; repeat (first | exact HS.out | apply SA.drew | apply SA.drewN | apply SA.alloc)))
                      clear hK K 
                      try simp only [Act.put, List.setIfInBounds_toArray, List.set_cons_zero, List.set_cons_succ]
                      refine wpAnyH_ready (rs := [17]) (by kernel_rfl) (by simp) ?_
                      refine AllReadyH.cons (by simp only [List.getElem?_toArray, List.getElem?_cons_succ, List.getElem?_cons_zero]; first | done | rfl) (fun K hK => ?_) ?_
                      · go_simp
                        (first | (go_at_call 12; refine (public_any _ _ (by omega) (by omega)).mono ?_; rintro e w2 ⟨rfl, n2, rfl⟩; (try rw [pub0]); (try rw [pub1])) | (go_at_call 13; refine (check_any _ _ _ _ _ _ (by omega) (by omega) (by omega) (by omega) (by omega) (by omega) (by first | exact rd_marked _ 109 _ | exact rd_marked _ 110 _ | exact rd_drewN (rd_marked _ 109 _) _ | exact rd_drewN (rd_marked _ 110 _) _) (by decide)).mono ?_; rintro e w2 ⟨rfl, hb2⟩; (first | rw [HM.out] | rw [HN.out] | rw [unit0]); have HB' := Lib.hid (bl_bl (by repeat (first | exact HB.out | apply bl_drew | apply bl_drewN | apply bl_alloc)) hb2); have HS' := Lib.hid (SA.below (by repeat (first | exact HS.out | apply SA.drew | apply SA.drewN | apply SA.alloc)) hb2); clear hb2; have HB := HB'; have HS := HS'; clear HB' HS') | (go_at_call 14; refine (put_any _ _ _ (by omega) (by omega) (by omega) (by omega)).mono ?_; rintro e w2 ⟨u2, rfl, hu2, hb2⟩; obtain ⟨a2, c2, rfl⟩ := hu2.rd.shape; rw [putF_len]; have HB' := Lib.hid (bl_bl (by repeat (first | exact HB.out | apply bl_drew | apply bl_drewN | apply bl_alloc)) hb2); have HS' := Lib.hid (SA.below (by repeat (first | exact HS.out | apply SA.drew | apply SA.drewN | apply SA.alloc)) hb2); clear hb2 hu2; have HB := HB'; have HS := HS'; clear HB' HS'))
                        refine hK.out _ _ ?_ (fun hHeld => ?_)
                        · (try dsimp only); (first | (refine SA.cells ?_; repeat (first | exact HS.out | apply SA.drew | apply SA.drewN | apply SA.alloc)))
                        clear hK K 
                        try simp only [Act.put, List.setIfInBounds_toArray, List.set_cons_zero, List.set_cons_succ]
                        refine wpAnyH_take (i := 18) (v := ?_) (by simp only [List.getElem?_toArray, List.getElem?_cons_succ, List.getElem?_cons_zero]; first | done | rfl) (by kernel_rfl) (by kernel_rfl) (by kernel_rfl) (fun _ _ _ h => h) (Or.inl ⟨by rfl, ?hy⟩) (by assumption) ?_
                        case hy => (intro w hSw; (try dsimp only at hSw); go_simp; all_goals with_reducible rfl)
                        try simp only [Act.put, List.setIfInBounds_toArray, List.set_cons_zero, List.set_cons_succ]
                        refine wpAnyH_take (i := 19) (v := ?_) (by simp only [List.getElem?_toArray, List.getElem?_cons_succ, List.getElem?_cons_zero]; first | done | rfl) (by kernel_rfl) (by kernel_rfl) (by kernel_rfl) (fun _ _ _ h => h) (Or.inl ⟨by rfl, ?hy⟩) (by assumption) ?_
                        case hy => (intro w hSw; (try dsimp only at hSw); go_simp; all_goals with_reducible rfl)
                        try simp only [Act.put, List.setIfInBounds_toArray, List.set_cons_zero, List.set_cons_succ]
                        refine wpAnyH_take (i := 20) (v := ?_) (by simp only [List.getElem?_toArray, List.getElem?_cons_succ, List.getElem?_cons_zero]; first | done | rfl) (by kernel_rfl) (by kernel_rfl) (by kernel_rfl) (fun _ _ _ h => h) (Or.inl ⟨by rfl, ?hy⟩) (by assumption) ?_
                        case hy => (intro w hSw; (try dsimp only at hSw); go_simp; all_goals with_reducible rfl)
                        try simp only [Act.put, List.setIfInBounds_toArray, List.set_cons_zero, List.set_cons_succ]
                        refine wpAnyH_ready (rs := [21]) (by kernel_rfl) (by simp) ?_
                        refine AllReadyH.cons (by simp only [List.getElem?_toArray, List.getElem?_cons_succ, List.getElem?_cons_zero]; first | done | rfl) (fun K hK => ?_) ?_
                        · go_simp
                          (first | (go_at_call 12; refine (public_any _ _ (by omega) (by omega)).mono ?_; rintro e w2 ⟨rfl, n2, rfl⟩; (try rw [pub0]); (try rw [pub1])) | (go_at_call 13; refine (check_any _ _ _ _ _ _ (by omega) (by omega) (by omega) (by omega) (by omega) (by omega) (by first | exact rd_marked _ 109 _ | exact rd_marked _ 110 _ | exact rd_drewN (rd_marked _ 109 _) _ | exact rd_drewN (rd_marked _ 110 _) _) (by decide)).mono ?_; rintro e w2 ⟨rfl, hb2⟩; (first | rw [HM.out] | rw [HN.out] | rw [unit0]); have HB' := Lib.hid (bl_bl (by repeat (first | exact HB.out | apply bl_drew | apply bl_drewN | apply bl_alloc)) hb2); have HS' := Lib.hid (SA.below (by repeat (first | exact HS.out | apply SA.drew | apply SA.drewN | apply SA.alloc)) hb2); clear hb2; have HB := HB'; have HS := HS'; clear HB' HS') | (go_at_call 14; refine (put_any _ _ _ (by omega) (by omega) (by omega) (by omega)).mono ?_; rintro e w2 ⟨u2, rfl, hu2, hb2⟩; obtain ⟨a2, c2, rfl⟩ := hu2.rd.shape; rw [putF_len]; have HB' := Lib.hid (bl_bl (by repeat (first | exact HB.out | apply bl_drew | apply bl_drewN | apply bl_alloc)) hb2); have HS' := Lib.hid (SA.below (by repeat (first | exact HS.out | apply SA.drew | apply SA.drewN | apply SA.alloc)) hb2); clear hb2 hu2; have HB := HB'; have HS := HS'; clear HB' HS'))
                          refine hK.out _ _ ?_ (fun hHeld => ?_)
                          · (try dsimp only); (first | (refine SA.cells ?_; repeat (first | exact HS.out | apply SA.drew | apply SA.drewN | apply SA.alloc)))
                          clear hK K 
                          try simp only [Act.put, List.setIfInBounds_toArray, List.set_cons_zero, List.set_cons_succ]
                          refine wpAnyH_take (i := 22) (v := ?_) (by simp only [List.getElem?_toArray, List.getElem?_cons_succ, List.getElem?_cons_zero]; first | done | rfl) (by kernel_rfl) (by kernel_rfl) (by kernel_rfl) (fun _ _ _ h => h) (Or.inl ⟨by rfl, ?hy⟩) (by assumption) ?_
                          case hy => (intro w hSw; (try dsimp only at hSw); go_simp; all_goals with_reducible rfl)
                          try simp only [Act.put, List.setIfInBounds_toArray, List.set_cons_zero, List.set_cons_succ]
                          refine wpAnyH_take (i := 23) (v := ?_) (by simp only [List.getElem?_toArray, List.getElem?_cons_succ, List.getElem?_cons_zero]; first | done | rfl) (by kernel_rfl) (by kernel_rfl) (by kernel_rfl) (fun _ _ _ h => h) (Or.inl ⟨by rfl, ?hy⟩) (by assumption) ?_
                          case hy => (intro w hSw; (try dsimp only at hSw); go_simp; all_goals with_reducible rfl)
                          try simp only [Act.put, List.setIfInBounds_toArray, List.set_cons_zero, List.set_cons_succ]
                          refine wpAnyH_take (i := 24) (v := ?_) (by simp only [List.getElem?_toArray, List.getElem?_cons_succ, List.getElem?_cons_zero]; first | done | rfl) (by kernel_rfl) (by kernel_rfl) (by kernel_rfl) (fun _ _ _ h => h) (Or.inl ⟨by rfl, ?hy⟩) (by assumption) ?_
                          case hy => (intro w hSw; (try dsimp only at hSw); go_simp; all_goals with_reducible rfl)
                          try simp only [Act.put, List.setIfInBounds_toArray, List.set_cons_zero, List.set_cons_succ]
                          refine wpAnyH_ready (rs := [25]) (by kernel_rfl) (by simp) ?_
                          refine AllReadyH.cons (by simp only [List.getElem?_toArray, List.getElem?_cons_succ, List.getElem?_cons_zero]; first | done | rfl) (fun K hK => ?_) ?_
                          · go_simp
                            (first | (go_at_call 12; refine (public_any _ _ (by omega) (by omega)).mono ?_; rintro e w2 ⟨rfl, n2, rfl⟩; (try rw [pub0]); (try rw [pub1])) | (go_at_call 13; refine (check_any _ _ _ _ _ _ (by omega) (by omega) (by omega) (by omega) (by omega) (by omega) (by first | exact rd_marked _ 109 _ | exact rd_marked _ 110 _ | exact rd_drewN (rd_marked _ 109 _) _ | exact rd_drewN (rd_marked _ 110 _) _) (by decide)).mono ?_; rintro e w2 ⟨rfl, hb2⟩; (first | rw [HM.out] | rw [HN.out] | rw [unit0]); have HB' := Lib.hid (bl_bl (by repeat (first | exact HB.out | apply bl_drew | apply bl_drewN | apply bl_alloc)) hb2); have HS' := Lib.hid (SA.below (by repeat (first | exact HS.out | apply SA.drew | apply SA.drewN | apply SA.alloc)) hb2); clear hb2; have HB := HB'; have HS := HS'; clear HB' HS') | (go_at_call 14; refine (put_any _ _ _ (by omega) (by omega) (by omega) (by omega)).mono ?_; rintro e w2 ⟨u2, rfl, hu2, hb2⟩; obtain ⟨a2, c2, rfl⟩ := hu2.rd.shape; rw [putF_len]; have HB' := Lib.hid (bl_bl (by repeat (first | exact HB.out | apply bl_drew | apply bl_drewN | apply bl_alloc)) hb2); have HS' := Lib.hid (SA.below (by repeat (first | exact HS.out | apply SA.drew | apply SA.drewN | apply SA.alloc)) hb2); clear hb2 hu2; have HB := HB'; have HS := HS'; clear HB' HS'))
                            refine hK.out _ _ ?_ (fun hHeld => ?_)
                            · (try dsimp only); (first | (refine SA.cells ?_; repeat (first | exact HS.out | apply SA.drew | apply SA.drewN | apply SA.alloc)))
                            clear hK K 
                            try simp only [Act.put, List.setIfInBounds_toArray, List.set_cons_zero, List.set_cons_succ]
                            refine wpAnyH_take (i := 26) (v := ?_) (by simp only [List.getElem?_toArray, List.getElem?_cons_succ, List.getElem?_cons_zero]; first | done | rfl) (by kernel_rfl) (by kernel_rfl) (by kernel_rfl) (fun _ _ _ h => h) (Or.inl ⟨by rfl, ?hy⟩) (by assumption) ?_
                            case hy => (intro w hSw; (try dsimp only at hSw); go_simp; all_goals with_reducible rfl)
                            try simp only [Act.put, List.setIfInBounds_toArray, List.set_cons_zero, List.set_cons_succ]
                            refine wpAnyH_take (i := 27) (v := ?_) (by simp only [List.getElem?_toArray, List.getElem?_cons_succ, List.getElem?_cons_zero]; first | done | rfl) (by kernel_rfl) (by kernel_rfl) (by kernel_rfl) (fun _ _ _ h => h) (Or.inl ⟨by rfl, ?hy⟩) (by assumption) ?_
                            case hy => (intro w hSw; (try dsimp only at hSw); go_simp; all_goals with_reducible rfl)
                            try simp only [Act.put, List.setIfInBounds_toArray, List.set_cons_zero, List.set_cons_succ]
                            refine wpAnyH_take (i := 28) (v := ?_) (by simp only [List.getElem?_toArray, List.getElem?_cons_succ, List.getElem?_cons_zero]; first | done | rfl) (by kernel_rfl) (by kernel_rfl) (by kernel_rfl) (fun _ _ _ h => h) (Or.inl ⟨by rfl, ?hy⟩) (by assumption) ?_
                            case hy => (intro w hSw; (try dsimp only at hSw); go_simp; all_goals with_reducible rfl)
                            try simp only [Act.put, List.setIfInBounds_toArray, List.set_cons_zero, List.set_cons_succ]
                            refine wpAnyH_take (i := 29) (v := ?_) (by simp only [List.getElem?_toArray, List.getElem?_cons_succ, List.getElem?_cons_zero]; first | done | rfl) (by kernel_rfl) (by kernel_rfl) (by kernel_rfl) (fun _ _ _ h => h) (Or.inl ⟨by rfl, ?hy⟩) (by assumption) ?_
                            case hy => (intro w hSw; (try dsimp only at hSw); go_simp; all_goals with_reducible rfl)
                            try simp only [Act.put, List.setIfInBounds_toArray, List.set_cons_zero, List.set_cons_succ]
                            refine wpAnyH_ready (rs := [30]) (by kernel_rfl) (by simp) ?_
                            refine AllReadyH.cons (by simp only [List.getElem?_toArray, List.getElem?_cons_succ, List.getElem?_cons_zero]; first | done | rfl) (fun K hK => ?_) ?_
                            · go_simp
                              (first | (go_at_call 12; refine (public_any _ _ (by omega) (by omega)).mono ?_; rintro e w2 ⟨rfl, n2, rfl⟩; (try rw [pub0]); (try rw [pub1])) | (go_at_call 13; refine (check_any _ _ _ _ _ _ (by omega) (by omega) (by omega) (by omega) (by omega) (by omega) (by first | exact rd_marked _ 109 _ | exact rd_marked _ 110 _ | exact rd_drewN (rd_marked _ 109 _) _ | exact rd_drewN (rd_marked _ 110 _) _) (by decide)).mono ?_; rintro e w2 ⟨rfl, hb2⟩; (first | rw [HM.out] | rw [HN.out] | rw [unit0]); have HB' := Lib.hid (bl_bl (by repeat (first | exact HB.out | apply bl_drew | apply bl_drewN | apply bl_alloc)) hb2); have HS' := Lib.hid (SA.below (by repeat (first | exact HS.out | apply SA.drew | apply SA.drewN | apply SA.alloc)) hb2); clear hb2; have HB := HB'; have HS := HS'; clear HB' HS') | (go_at_call 14; refine (put_any _ _ _ (by omega) (by omega) (by omega) (by omega)).mono ?_; rintro e w2 ⟨u2, rfl, hu2, hb2⟩; obtain ⟨a2, c2, rfl⟩ := hu2.rd.shape; rw [putF_len]; have HB' := Lib.hid (bl_bl (by repeat (first | exact HB.out | apply bl_drew | apply bl_drewN | apply bl_alloc)) hb2); have HS' := Lib.hid (SA.below (by repeat (first | exact HS.out | apply SA.drew | apply SA.drewN | apply SA.alloc)) hb2); clear hb2 hu2; have HB := HB'; have HS := HS'; clear HB' HS'))
                              refine hK.out _ _ ?_ (fun hHeld => ?_)
                              · (try dsimp only); (first | (refine SA.cells ?_; repeat (first | exact HS.out | apply SA.drew | apply SA.drewN | apply SA.alloc)))
                              clear hK K 
                              try simp only [Act.put, List.setIfInBounds_toArray, List.set_cons_zero, List.set_cons_succ]
                              refine wpAnyH_take (i := 31) (v := ?_) (by simp only [List.getElem?_toArray, List.getElem?_cons_succ, List.getElem?_cons_zero]; first | done | rfl) (by kernel_rfl) (by kernel_rfl) (by kernel_rfl) (fun _ _ _ h => h) (Or.inl ⟨by rfl, ?hy⟩) (by assumption) ?_
                              case hy => (intro w hSw; (try dsimp only at hSw); go_simp; all_goals with_reducible rfl)
                              try simp only [Act.put, List.setIfInBounds_toArray, List.set_cons_zero, List.set_cons_succ]
                              refine wpAnyH_take (i := 32) (v := ?_) (by simp only [List.getElem?_toArray, List.getElem?_cons_succ, List.getElem?_cons_zero]; first | done | rfl) (by kernel_rfl) (by kernel_rfl) (by kernel_rfl) (fun _ _ _ h => h) (Or.inl ⟨by rfl, ?hy⟩) (by assumption) ?_
                              case hy => (intro w hSw; (try dsimp only at hSw); go_simp; all_goals with_reducible rfl)
                              try simp only [Act.put, List.setIfInBounds_toArray, List.set_cons_zero, List.set_cons_succ]
                              refine wpAnyH_take (i := 33) (v := ?_) (by simp only [List.getElem?_toArray, List.getElem?_cons_succ, List.getElem?_cons_zero]; first | done | rfl) (by kernel_rfl) (by kernel_rfl) (by kernel_rfl) (fun _ _ _ h => h) (Or.inl ⟨by rfl, ?hy⟩) (by assumption) ?_
                              case hy => (intro w hSw; (try dsimp only at hSw); go_simp; all_goals with_reducible rfl)
                              try simp only [Act.put, List.setIfInBounds_toArray, List.set_cons_zero, List.set_cons_succ]
                              refine wpAnyH_take (i := 34) (v := ?_) (by simp only [List.getElem?_toArray, List.getElem?_cons_succ, List.getElem?_cons_zero]; first | done | rfl) (by kernel_rfl) (by kernel_rfl) (by kernel_rfl) (fun _ _ _ h => h) (Or.inl ⟨by rfl, ?hy⟩) (by assumption) ?_
                              case hy => (intro w hSw; (try dsimp only at hSw); go_simp; all_goals with_reducible rfl)
                              try simp only [Act.put, List.setIfInBounds_toArray, List.set_cons_zero, List.set_cons_succ]
                              refine wpAnyH_done (by kernel_rfl) ?_ _
                              (refine NoPanic.normal ?_; go_wp2_with fail; go_ret; exact ⟨rfl, HB.out⟩)
                            exact AllReadyH.nil
                          exact AllReadyH.nil
                        exact AllReadyH.nil
                      exact AllReadyH.nil
                    exact AllReadyH.nil
                  exact AllReadyH.nil
                exact AllReadyH.nil
              exact AllReadyH.nil
            refine AllReadyH.cons (by simp only [List.getElem?_toArray, List.getElem?_cons_succ, List.getElem?_cons_zero]; first | done | rfl) (fun K hK => ?_) ?_
            · go_simp
              refine hK.out _ _ ?_ (fun hHeld => ?_)
              · (try dsimp only); (first | (refine SA.cells ?_; repeat (first | exact HS.out | apply SA.drew | apply SA.drewN | apply SA.alloc)))
              clear hK K 
              try simp only [Act.put, List.setIfInBounds_toArray, List.set_cons_zero, List.set_cons_succ]
              refine wpAnyH_ready (rs := [6]) (by kernel_rfl) (by simp) ?_
              refine AllReadyH.cons (by simp only [List.getElem?_toArray, List.getElem?_cons_succ, List.getElem?_cons_zero]; first | done | rfl) (fun K hK => ?_) ?_
              · go_simp
                (first | (go_at_call 12; refine (public_any _ _ (by omega) (by omega)).mono ?_; rintro e w2 ⟨rfl, n2, rfl⟩; (try rw [pub0]); (try rw [pub1])) | (go_at_call 13; refine (check_any _ _ _ _ _ _ (by omega) (by omega) (by omega) (by omega) (by omega) (by omega) (by first | exact rd_marked _ 109 _ | exact rd_marked _ 110 _ | exact rd_drewN (rd_marked _ 109 _) _ | exact rd_drewN (rd_marked _ 110 _) _) (by decide)).mono ?_; rintro e w2 ⟨rfl, hb2⟩; (first | rw [HM.out] | rw [HN.out] | rw [unit0]); have HB' := Lib.hid (bl_bl (by repeat (first | exact HB.out | apply bl_drew | apply bl_drewN | apply bl_alloc)) hb2); have HS' := Lib.hid (SA.below (by repeat (first | exact HS.out | apply SA.drew | apply SA.drewN | apply SA.alloc)) hb2); clear hb2; have HB := HB'; have HS := HS'; clear HB' HS') | (go_at_call 14; refine (put_any _ _ _ (by omega) (by omega) (by omega) (by omega)).mono ?_; rintro e w2 ⟨u2, rfl, hu2, hb2⟩; obtain ⟨a2, c2, rfl⟩ := hu2.rd.shape; rw [putF_len]; have HB' := Lib.hid (bl_bl (by repeat (first | exact HB.out | apply bl_drew | apply bl_drewN | apply bl_alloc)) hb2); have HS' := Lib.hid (SA.below (by repeat (first | exact HS.out | apply SA.drew | apply SA.drewN | apply SA.alloc)) hb2); clear hb2 hu2; have HB := HB'; have HS := HS'; clear HB' HS'))
                refine hK.out _ _ ?_ (fun hHeld => ?_)
                · (try dsimp only); (first | (refine SA.cells ?_; repeat (first | exact HS.out | apply SA.drew | apply SA.drewN | apply SA.alloc)))
                clear hK K 
                try simp only [Act.put, List.setIfInBounds_toArray, List.set_cons_zero, List.set_cons_succ]
                refine wpAnyH_ready (rs := [10]) (by kernel_rfl) (by simp) ?_
                refine AllReadyH.cons (by simp only [List.getElem?_toArray, List.getElem?_cons_succ, List.getElem?_cons_zero]; first | done | rfl) (fun K hK => ?_) ?_
                · go_simp
                  (first | (go_at_call 12; refine (public_any _ _ (by omega) (by omega)).mono ?_; rintro e w2 ⟨rfl, n2, rfl⟩; (try rw [pub0]); (try rw [pub1])) | (go_at_call 13; refine (check_any _ _ _ _ _ _ (by omega) (by omega) (by omega) (by omega) (by omega) (by omega) (by first | exact rd_marked _ 109 _ | exact rd_marked _ 110 _ | exact rd_drewN (rd_marked _ 109 _) _ | exact rd_drewN (rd_marked _ 110 _) _) (by decide)).mono ?_; rintro e w2 ⟨rfl, hb2⟩; (first | rw [HM.out] | rw [HN.out] | rw [unit0]); have HB' := Lib.hid (bl_bl (by repeat (first | exact HB.out | apply bl_drew | apply bl_drewN | apply bl_alloc)) hb2); have HS' := Lib.hid (SA.below (by repeat (first | exact HS.out | apply SA.drew | apply SA.drewN | apply SA.alloc)) hb2); clear hb2; have HB := HB'; have HS := HS'; clear HB' HS') | (go_at_call 14; refine (put_any _ _ _ (by omega) (by omega) (by omega) (by omega)).mono ?_; rintro e w2 ⟨u2, rfl, hu2, hb2⟩; obtain ⟨a2, c2, rfl⟩ := hu2.rd.shape; rw [putF_len]; have HB' := Lib.hid (bl_bl (by repeat (first | exact HB.out | apply bl_drew | apply bl_drewN | apply bl_alloc)) hb2); have HS' := Lib.hid (SA.below (by repeat (first | exact HS.out | apply SA.drew | apply SA.drewN | apply SA.alloc)) hb2); clear hb2 hu2; have HB := HB'; have HS := HS'; clear HB' HS'))
                  refine hK.out _ _ ?_ (fun hHeld => ?_)
                  · (try dsimp only); (first | (refine SA.cells ?_; repeat (first | exact HS.out | apply SA.drew | apply SA.drewN | apply SA.alloc)))
                  clear hK K 
                  try simp only [Act.put, List.setIfInBounds_toArray, List.set_cons_zero, List.set_cons_succ]
                  refine wpAnyH_take (i := 11) (v := ?_) (by simp only [List.getElem?_toArray, List.getElem?_cons_succ, List.getElem?_cons_zero]; first | done | rfl) (by kernel_rfl) (by kernel_rfl) (by kernel_rfl) (fun _ _ _ h => h) (Or.inl ⟨by rfl, ?hy⟩) (by assumption) ?_
                  case hy => (intro w hSw; (try dsimp only at hSw); go_simp; all_goals with_reducible rfl)
                  try simp only [Act.put, List.setIfInBounds_toArray, List.set_cons_zero, List.set_cons_succ]
                  refine wpAnyH_take (i := 12) (v := ?_) (by simp only [List.getElem?_toArray, List.getElem?_cons_succ, List.getElem?_cons_zero]; first | done | rfl) (by kernel_rfl) (by kernel_rfl) (by kernel_rfl) (fun _ _ _ h => h) (Or.inl ⟨by rfl, ?hy⟩) (by assumption) ?_
                  case hy => (intro w hSw; (try dsimp only at hSw); go_simp; all_goals with_reducible rfl)
                  try simp only [Act.put, List.setIfInBounds_toArray, List.set_cons_zero, List.set_cons_succ]
                  refine wpAnyH_take (i := 13) (v := ?_) (by simp only [List.getElem?_toArray, List.getElem?_cons_succ, List.getElem?_cons_zero]; first | done | rfl) (by kernel_rfl) (by kernel_rfl) (by kernel_rfl) (fun _ _ _ h => h) (Or.inl ⟨by rfl, ?hy⟩) (by assumption) ?_
                  case hy => (intro w hSw; (try dsimp only at hSw); go_simp; all_goals with_reducible rfl)
                  try simp only [Act.put, List.setIfInBounds_toArray, List.set_cons_zero, List.set_cons_succ]
                  refine wpAnyH_take (i := 16) (v := ?_) (by simp only [List.getElem?_toArray, List.getElem?_cons_succ, List.getElem?_cons_zero]; first | done | rfl) (by kernel_rfl) (by kernel_rfl) (by kernel_rfl) (fun _ _ _ h => h) (Or.inl ⟨by rfl, ?hy⟩) (by assumption) ?_
                  case hy => (intro w hSw; (try dsimp only at hSw); go_simp; all_goals with_reducible rfl)
                  try simp only [Act.put, List.setIfInBounds_toArray, List.set_cons_zero, List.set_cons_succ]
                  refine wpAnyH_ready (rs := [14]) (by kernel_rfl) (by simp) ?_
                  refine AllReadyH.cons (by simp only [List.getElem?_toArray, List.getElem?_cons_succ, List.getElem?_cons_zero]; first | done | rfl) (fun K hK => ?_) ?_
                  · go_simp
                    refine hK.out _ _ ?_ (fun hHeld => ?_)
                    · (try dsimp only); (first | (refine SA.cells ?_; repeat (first | exact HS.out | apply SA.drew | apply SA.drewN | apply SA.alloc)))
                    clear hK K 
                    try simp only [Act.put, List.setIfInBounds_toArray, List.set_cons_zero, List.set_cons_succ]
                    refine wpAnyH_ready (rs := [15]) (by kernel_rfl) (by simp) ?_
                    refine AllReadyH.cons (by simp only [List.getElem?_toArray, List.getElem?_cons_succ, List.getElem?_cons_zero]; first | done | rfl) (fun K hK => ?_) ?_
                    · go_simp
                      refine hK.out _ _ ?_ (fun hHeld => ?_)
                      · (try dsimp only); (first | (refine SA.cells ?_; repeat (first | exact HS.out | apply SA.drew | apply SA.drewN | apply SA.alloc)))
                      clear hK K 
                      try simp only [Act.put, List.setIfInBounds_toArray, List.set_cons_zero, List.set_cons_succ]
                      refine wpAnyH_ready (rs := [17]) (by kernel_rfl) (by simp) ?_
                      refine AllReadyH.cons (by simp only [List.getElem?_toArray, List.getElem?_cons_succ, List.getElem?_cons_zero]; first | done | rfl) (fun K hK => ?_) ?_
                      · go_simp
                        (first | (go_at_call 12; refine (public_any _ _ (by omega) (by omega)).mono ?_; rintro e w2 ⟨rfl, n2, rfl⟩; (try rw [pub0]); (try rw [pub1])) | (go_at_call 13; refine (check_any _ _ _ _ _ _ (by omega) (by omega) (by omega) (by omega) (by omega) (by omega) (by first | exact rd_marked _ 109 _ | exact rd_marked _ 110 _ | exact rd_drewN (rd_marked _ 109 _) _ | exact rd_drewN (rd_marked _ 110 _) _) (by decide)).mono ?_; rintro e w2 ⟨rfl, hb2⟩; (first | rw [HM.out] | rw [HN.out] | rw [unit0]); have HB' := Lib.hid (bl_bl (by repeat (first | exact HB.out | apply bl_drew | apply bl_drewN | apply bl_alloc)) hb2); have HS' := Lib.hid (SA.below (by repeat (first | exact HS.out | apply SA.drew | apply SA.drewN | apply SA.alloc)) hb2); clear hb2; have HB := HB'; have HS := HS'; clear HB' HS') | (go_at_call 14; refine (put_any _ _ _ (by omega) (by omega) (by omega) (by omega)).mono ?_; rintro e w2 ⟨u2, rfl, hu2, hb2⟩; obtain ⟨a2, c2, rfl⟩ := hu2.rd.shape; rw [putF_len]; have HB' := Lib.hid (bl_bl (by repeat (first | exact HB.out | apply bl_drew | apply bl_drewN | apply bl_alloc)) hb2); have HS' := Lib.hid (SA.below (by repeat (first | exact HS.out | apply SA.drew | apply SA.drewN | apply SA.alloc)) hb2); clear hb2 hu2; have HB := HB'; have HS := HS'; clear HB' HS'))
                        refine hK.out _ _ ?_ (fun hHeld => ?_)
                        · (try dsimp only); (first | (refine SA.cells ?_; repeat (first | exact HS.out | apply SA.drew | apply SA.drewN | apply SA.alloc)))
                        clear hK K 
                        try simp only [Act.put, List.setIfInBounds_toArray, List.set_cons_zero, List.set_cons_succ]
                        refine wpAnyH_take (i := 18) (v := ?_) (by simp only [List.getElem?_toArray, List.getElem?_cons_succ, List.getElem?_cons_zero]; first | done | rfl) (by kernel_rfl) (by kernel_rfl) (by kernel_rfl) (fun _ _ _ h => h) (Or.inl ⟨by rfl, ?hy⟩) (by assumption) ?_
                        case hy => (intro w hSw; (try dsimp only at hSw); go_simp; all_goals with_reducible rfl)
                        try simp only [Act.put, List.setIfInBounds_toArray, List.set_cons_zero, List.set_cons_succ]
                        refine wpAnyH_take (i := 19) (v := ?_) (by simp only [List.getElem?_toArray, List.getElem?_cons_succ, List.getElem?_cons_zero]; first | done | rfl) (by kernel_rfl) (by kernel_rfl) (by kernel_rfl) (fun _ _ _ h => h) (Or.inl ⟨by rfl, ?hy⟩) (by assumption) ?_
                        case hy => (intro w hSw; (try dsimp only at hSw); go_simp; all_goals with_reducible rfl)
                        try simp only [Act.put, List.setIfInBounds_toArray, List.set_cons_zero, List.set_cons_succ]
                        refine wpAnyH_take (i := 20) (v := ?_) (by simp only [List.getElem?_toArray, List.getElem?_cons_succ, List.getElem?_cons_zero]; first | done | rfl) (by kernel_rfl) (by kernel_rfl) (by kernel_rfl) (fun _ _ _ h => h) (Or.inl ⟨by rfl, ?hy⟩) (by assumption) ?_
                        case hy => (intro w hSw; (try dsimp only at hSw); go_simp; all_goals with_reducible rfl)
                        try simp only [Act.put, List.setIfInBounds_toArray, List.set_cons_zero, List.set_cons_succ]
                        refine wpAnyH_ready (rs := [21]) (by kernel_rfl) (by simp) ?_
                        refine AllReadyH.cons (by simp only [List.getElem?_toArray, List.getElem?_cons_succ, List.getElem?_cons_zero]; first | done | rfl) (fun K hK => ?_) ?_
                        · go_simp
                          (first | (go_at_call 12; refine (public_any _ _ (by omega) (by omega)).mono ?_; rintro e w2 ⟨rfl, n2, rfl⟩; (try rw [pub0]); (try rw [pub1])) | (go_at_call 13; refine (check_any _ _ _ _ _ _ (by omega) (by omega) (by omega) (by omega) (by omega) (by omega) (by first | exact rd_marked _ 109 _ | exact rd_marked _ 110 _ | exact rd_drewN (rd_marked _ 109 _) _ | exact rd_drewN (rd_marked _ 110 _) _) (by decide)).mono ?_; rintro e w2 ⟨rfl, hb2⟩; (first | rw [HM.out] | rw [HN.out] | rw [unit0]); have HB' := Lib.hid (bl_bl (by repeat (first | exact HB.out | apply bl_drew | apply bl_drewN | apply bl_alloc)) hb2); have HS' := Lib.hid (SA.below (by repeat (first | exact HS.out | apply SA.drew | apply SA.drewN | apply SA.alloc)) hb2); clear hb2; have HB := HB'; have HS := HS'; clear HB' HS') | (go_at_call 14; refine (put_any _ _ _ (by omega) (by omega) (by omega) (by omega)).mono ?_; rintro e w2 ⟨u2, rfl, hu2, hb2⟩; obtain ⟨a2, c2, rfl⟩ := hu2.rd.shape; rw [putF_len]; have HB' := Lib.hid (bl_bl (by repeat (first | exact HB.out | apply bl_drew | apply bl_drewN | apply bl_alloc)) hb2); have HS' := Lib.hid (SA.below (by repeat (first | exact HS.out | apply SA.drew | apply SA.drewN | apply SA.alloc)) hb2); clear hb2 hu2; have HB := HB'; have HS := HS'; clear HB' HS'))
                          refine hK.out _ _ ?_ (fun hHeld => ?_)
                          · (try dsimp only); (first | (refine SA.cells ?_; repeat (first | exact HS.out | apply SA.drew | apply SA.drewN | apply SA.alloc)))
                          clear hK K 
                          try simp only [Act.put, List.setIfInBounds_toArray, List.set_cons_zero, List.set_cons_succ]
                          refine wpAnyH_take (i := 22) (v := ?_) (by simp only [List.getElem?_toArray, List.getElem?_cons_succ, List.getElem?_cons_zero]; first | done | rfl) (by kernel_rfl) (by kernel_rfl) (by kernel_rfl) (fun _ _ _ h => h) (Or.inl ⟨by rfl, ?hy⟩) (by assumption) ?_
                          case hy => (intro w hSw; (try dsimp only at hSw); go_simp; all_goals with_reducible rfl)
                          try simp only [Act.put, List.setIfInBounds_toArray, List.set_cons_zero, List.set_cons_succ]
                          refine wpAnyH_take (i := 23) (v := ?_) (by simp only [List.getElem?_toArray, List.getElem?_cons_succ, List.getElem?_cons_zero]; first | done | rfl) (by kernel_rfl) (by kernel_rfl) (by kernel_rfl) (fun _ _ _ h => h) (Or.inl ⟨by rfl, ?hy⟩) (by assumption) ?_
                          case hy => (intro w hSw; (try dsimp only at hSw); go_simp; all_goals with_reducible rfl)
                          try simp only [Act.put, List.setIfInBounds_toArray, List.set_cons_zero, List.set_cons_succ]
                          refine wpAnyH_take (i := 24) (v := ?_) (by simp only [List.getElem?_toArray, List.getElem?_cons_succ, List.getElem?_cons_zero]; first | done | rfl) (by kernel_rfl) (by kernel_rfl) (by kernel_rfl) (fun _ _ _ h => h) (Or.inl ⟨by rfl, ?hy⟩) (by assumption) ?_
                          case hy => (intro w hSw; (try dsimp only at hSw); go_simp; all_goals with_reducible rfl)
                          try simp only [Act.put, List.setIfInBounds_toArray, List.set_cons_zero, List.set_cons_succ]
                          refine wpAnyH_ready (rs := [25]) (by kernel_rfl) (by simp) ?_
                          refine AllReadyH.cons (by simp only [List.getElem?_toArray, List.getElem?_cons_succ, List.getElem?_cons_zero]; first | done | rfl) (fun K hK => ?_) ?_
                          · go_simp
                            (first | (go_at_call 12; refine (public_any _ _ (by omega) (by omega)).mono ?_; rintro e w2 ⟨rfl, n2, rfl⟩; (try rw [pub0]); (try rw [pub1])) | (go_at_call 13; refine (check_any _ _ _ _ _ _ (by omega) (by omega) (by omega) (by omega) (by omega) (by omega) (by first | exact rd_marked _ 109 _ | exact rd_marked _ 110 _ | exact rd_drewN (rd_marked _ 109 _) _ | exact rd_drewN (rd_marked _ 110 _) _) (by decide)).mono ?_; rintro e w2 ⟨rfl, hb2⟩; (first | rw [HM.out] | rw [HN.out] | rw [unit0]); have HB' := Lib.hid (bl_bl (by repeat (first | exact HB.out | apply bl_drew | apply bl_drewN | apply bl_alloc)) hb2); have HS' := Lib.hid (SA.below (by repeat (first | exact HS.out | apply SA.drew | apply SA.drewN | apply SA.alloc)) hb2); clear hb2; have HB := HB'; have HS := HS'; clear HB' HS') | (go_at_call 14; refine (put_any _ _ _ (by omega) (by omega) (by omega) (by omega)).mono ?_; rintro e w2 ⟨u2, rfl, hu2, hb2⟩; obtain ⟨a2, c2, rfl⟩ := hu2.rd.shape; rw [putF_len]; have HB' := Lib.hid (bl_bl (by repeat (first | exact HB.out | apply bl_drew | apply bl_drewN | apply bl_alloc)) hb2); have HS' := Lib.hid (SA.below (by repeat (first | exact HS.out | apply SA.drew | apply SA.drewN | apply SA.alloc)) hb2); clear hb2 hu2; have HB := HB'; have HS := HS'; clear HB' HS'))
                            refine hK.out _ _ ?_ (fun hHeld => ?_)
                            · (try dsimp only); (first | (refine SA.cells ?_; repeat (first | exact HS.out | apply SA.drew | apply SA.drewN | apply SA.alloc)))
                            clear hK K 
                            try simp only [Act.put, List.setIfInBounds_toArray, List.set_cons_zero, List.set_cons_succ]
                            refine wpAnyH_take (i := 26) (v := ?_) (by simp only [List.getElem?_toArray, List.getElem?_cons_succ, List.getElem?_cons_zero]; first | done | rfl) (by kernel_rfl) (by kernel_rfl) (by kernel_rfl) (fun _ _ _ h => h) (Or.inl ⟨by rfl, ?hy⟩) (by assumption) ?_
                            case hy => (intro w hSw; (try dsimp only at hSw); go_simp; all_goals with_reducible rfl)
                            try simp only [Act.put, List.setIfInBounds_toArray, List.set_cons_zero, List.set_cons_succ]
                            refine wpAnyH_take (i := 27) (v := ?_) (by simp only [List.getElem?_toArray, List.getElem?_cons_succ, List.getElem?_cons_zero]; first | done | rfl) (by kernel_rfl) (by kernel_rfl) (by kernel_rfl) (fun _ _ _ h => h) (Or.inl ⟨by rfl, ?hy⟩) (by assumption) ?_
                            case hy => (intro w hSw; (try dsimp only at hSw); go_simp; all_goals with_reducible rfl)
                            try simp only [Act.put, List.setIfInBounds_toArray, List.set_cons_zero, List.set_cons_succ]
                            refine wpAnyH_take (i := 28) (v := ?_) (by simp only [List.getElem?_toArray, List.getElem?_cons_succ, List.getElem?_cons_zero]; first | done | rfl) (by kernel_rfl) (by kernel_rfl) (by kernel_rfl) (fun _ _ _ h => h) (Or.inl ⟨by rfl, ?hy⟩) (by assumption) ?_
                            case hy => (intro w hSw; (try dsimp only at hSw); go_simp; all_goals with_reducible rfl)
                            try simp only [Act.put, List.setIfInBounds_toArray, List.set_cons_zero, List.set_cons_succ]
                            refine wpAnyH_take (i := 29) (v := ?_) (by simp only [List.getElem?_toArray, List.getElem?_cons_succ, List.getElem?_cons_zero]; first | done | rfl) (by kernel_rfl) (by kernel_rfl) (by kernel_rfl) (fun _ _ _ h => h) (Or.inl ⟨by rfl, ?hy⟩) (by assumption) ?_
                            case hy => (intro w hSw; (try dsimp only at hSw); go_simp; all_goals with_reducible rfl)
                            try simp only [Act.put, List.setIfInBounds_toArray, List.set_cons_zero, List.set_cons_succ]
                            refine wpAnyH_ready (rs := [30]) (by kernel_rfl) (by simp) ?_
                            refine AllReadyH.cons (by simp only [List.getElem?_toArray, List.getElem?_cons_succ, List.getElem?_cons_zero]; first | done | rfl) (fun K hK => ?_) ?_
                            · go_simp
                              (first | (go_at_call 12; refine (public_any _ _ (by omega) (by omega)).mono ?_; rintro e w2 ⟨rfl, n2, rfl⟩; (try rw [pub0]); (try rw [pub1])) | (go_at_call 13; refine (check_any _ _ _ _ _ _ (by omega) (by omega) (by omega) (by omega) (by omega) (by omega) (by first | exact rd_marked _ 109 _ | exact rd_marked _ 110 _ | exact rd_drewN (rd_marked _ 109 _) _ | exact rd_drewN (rd_marked _ 110 _) _) (by decide)).mono ?_; rintro e w2 ⟨rfl, hb2⟩; (first | rw [HM.out] | rw [HN.out] | rw [unit0]); have HB' := Lib.hid (bl_bl (by repeat (first | exact HB.out | apply bl_drew | apply bl_drewN | apply bl_alloc)) hb2); have HS' := Lib.hid (SA.below (by repeat (first | exact HS.out | apply SA.drew | apply SA.drewN | apply SA.alloc)) hb2); clear hb2; have HB := HB'; have HS := HS'; clear HB' HS') | (go_at_call 14; refine (put_any _ _ _ (by omega) (by omega) (by omega) (by omega)).mono ?_; rintro e w2 ⟨u2, rfl, hu2, hb2⟩; obtain ⟨a2, c2, rfl⟩ := hu2.rd.shape; rw [putF_len]; have HB' := Lib.hid (bl_bl (by repeat (first | exact HB.out | apply bl_drew | apply bl_drewN | apply bl_alloc)) hb2); have HS' := Lib.hid (SA.below (by repeat (first | exact HS.out | apply SA.drew | apply SA.drewN | apply SA.alloc)) hb2); clear hb2 hu2; have HB := HB'; have HS := HS'; clear HB' HS'))
                              refine hK.out _ _ ?_ (fun hHeld => ?_)
                              · (try dsimp only); (first | (refine SA.cells ?_; repeat (first | exact HS.out | apply SA.drew | apply SA.drewN | apply SA.alloc)))
                              clear hK K 
                              try simp only [Act.put, List.setIfInBounds_toArray, List.set_cons_zero, List.set_cons_succ]
                              refine wpAnyH_take (i := 31) (v := ?_) (by simp only [List.getElem?_toArray, List.getElem?_cons_succ, List.getElem?_cons_zero]; first | done | rfl) (by kernel_rfl) (by kernel_rfl) (by kernel_rfl) (fun _ _ _ h => h) (Or.inl ⟨by rfl, ?hy⟩) (by assumption) ?_
                              case hy => (intro w hSw; (try dsimp only at hSw); go_simp; all_goals with_reducible rfl)
                              try simp only [Act.put, List.setIfInBounds_toArray, List.set_cons_zero, List.set_cons_succ]
                              refine wpAnyH_take (i := 32) (v := ?_) (by simp only [List.getElem?_toArray, List.getElem?_cons_succ, List.getElem?_cons_zero]; first | done | rfl) (by kernel_rfl) (by kernel_rfl) (by kernel_rfl) (fun _ _ _ h => h) (Or.inl ⟨by rfl, ?hy⟩) (by assumption) ?_
                              case hy => (intro w hSw; (try dsimp only at hSw); go_simp; all_goals with_reducible rfl)
                              try simp only [Act.put, List.setIfInBounds_toArray, List.set_cons_zero, List.set_cons_succ]
                              refine wpAnyH_take (i := 33) (v := ?_) (by simp only [List.getElem?_toArray, List.getElem?_cons_succ, List.getElem?_cons_zero]; first | done | rfl) (by kernel_rfl) (by kernel_rfl) (by kernel_rfl) (fun _ _ _ h => h) (Or.inl ⟨by rfl, ?hy⟩) (by assumption) ?_
                              case hy => (intro w hSw; (try dsimp only at hSw); go_simp; all_goals with_reducible rfl)
                              try simp only [Act.put, List.setIfInBounds_toArray, List.set_cons_zero, List.set_cons_succ]
                              refine wpAnyH_take (i := 34) (v := ?_) (by simp only [List.getElem?_toArray, List.getElem?_cons_succ, List.getElem?_cons_zero]; first | done | rfl) (by kernel_rfl) (by kernel_rfl) (by kernel_rfl) (fun _ _ _ h => h) (Or.inl ⟨by rfl, ?hy⟩) (by assumption) ?_
                              case hy => (intro w hSw; (try dsimp only at hSw); go_simp; all_goals with_reducible rfl)
                              try simp only [Act.put, List.setIfInBounds_toArray, List.set_cons_zero, List.set_cons_succ]
                              refine wpAnyH_done (by kernel_rfl) ?_ _
                              (refine NoPanic.normal ?_; go_wp2_with fail; go_ret; exact ⟨rfl, HB.out⟩)
                            exact AllReadyH.nil
                          exact AllReadyH.nil
                        exact AllReadyH.nil
                      exact AllReadyH.nil
                    exact AllReadyH.nil
                  exact AllReadyH.nil
                exact AllReadyH.nil
              exact AllReadyH.nil
            exact AllReadyH.nil
          exact AllReadyH.nil
        exact AllReadyH.nil
      exact AllReadyH.nil
    exact AllReadyH.nil
  refine AllReadyH.cons (by simp only [List.getElem?_toArray, List.getElem?_cons_succ, List.getElem?_cons_zero]; first | done | rfl) (fun K hK => ?_) ?_
  · go_simp
    refine hK.out _ _ ?_ (fun hHeld => ?_)
    · (try dsimp only); (first | (refine SA.cells ?_; repeat (first | exact HS.out | apply SA.drew | apply SA.drewN | apply SA.alloc)))
    clear hK K 
    try simp only [Act.put, List.setIfInBounds_toArray, List.set_cons_zero, List.set_cons_succ]
    refine wpAnyH_ready (rs := [0, 2]) (by kernel_rfl) (by simp) ?_
    refine AllReadyH.cons (by simp only [List.getElem?_toArray, List.getElem?_cons_succ, List.getElem?_cons_zero]; first | done | rfl) (fun K hK => ?_) ?_
    · go_simp
      (first | (go_at_call 12; refine (public_any _ _ (by omega) (by omega)).mono ?_; rintro e w2 ⟨rfl, n2, rfl⟩; (try rw [pub0]); (try rw [pub1])) | (go_at_call 13; refine (check_any _ _ _ _ _ _ (by omega) (by omega) (by omega) (by omega) (by omega) (by omega) (by first | exact rd_marked _ 109 _ | exact rd_marked _ 110 _ | exact rd_drewN (rd_marked _ 109 _) _ | exact rd_drewN (rd_marked _ 110 _) _) (by decide)).mono ?_; rintro e w2 ⟨rfl, hb2⟩; (first | rw [HM.out] | rw [HN.out] | rw [unit0]); have HB' := Lib.hid (bl_bl (by repeat (first | exact HB.out | apply bl_drew | apply bl_drewN | apply bl_alloc)) hb2); have HS' := Lib.hid (SA.below (by repeat (first | exact HS.out | apply SA.drew | apply SA.drewN | apply SA.alloc)) hb2); clear hb2; have HB := HB'; have HS := HS'; clear HB' HS') | (go_at_call 14; refine (put_any _ _ _ (by omega) (by omega) (by omega) (by omega)).mono ?_; rintro e w2 ⟨u2, rfl, hu2, hb2⟩; obtain ⟨a2, c2, rfl⟩ := hu2.rd.shape; rw [putF_len]; have HB' := Lib.hid (bl_bl (by repeat (first | exact HB.out | apply bl_drew | apply bl_drewN | apply bl_alloc)) hb2); have HS' := Lib.hid (SA.below (by repeat (first | exact HS.out | apply SA.drew | apply SA.drewN | apply SA.alloc)) hb2); clear hb2 hu2; have HB := HB'; have HS := HS'; clear HB' HS'))
      refine hK.out _ _ ?_ (fun hHeld => ?_)
      · (try dsimp only); (first | (refine SA.cells ?_; repeat (first | exact HS.out | apply SA.drew | apply SA.drewN | apply SA.alloc)))
      clear hK K 
      try simp only [Act.put, List.setIfInBounds_toArray, List.set_cons_zero, List.set_cons_succ]
      refine wpAnyH_ready (rs := [2]) (by kernel_rfl) (by simp) ?_
      refine AllReadyH.cons (by simp only [List.getElem?_toArray, List.getElem?_cons_succ, List.getElem?_cons_zero]; first | done | rfl) (fun K hK => ?_) ?_
      · go_simp
        refine hK.out _ _ ?_ (fun hHeld => ?_)
        · (try dsimp only); (first | (refine SA.cells ?_; repeat (first | exact HS.out | apply SA.drew | apply SA.drewN | apply SA.alloc)))
        clear hK K 
        try simp only [Act.put, List.setIfInBounds_toArray, List.set_cons_zero, List.set_cons_succ]
        refine wpAnyH_ready (rs := [4]) (by kernel_rfl) (by simp) ?_
        refine AllReadyH.cons (by simp only [List.getElem?_toArray, List.getElem?_cons_succ, List.getElem?_cons_zero]; first | done | rfl) (fun K hK => ?_) ?_
        · go_simp
          (first | (go_at_call 12; refine (public_any _ _ (by omega) (by omega)).mono ?_; rintro e w2 ⟨rfl, n2, rfl⟩; (try rw [pub0]); (try rw [pub1])) | (go_at_call 13; refine (check_any _ _ _ _ _ _ (by omega) (by omega) (by omega) (by omega) (by omega) (by omega) (by first | exact rd_marked _ 109 _ | exact rd_marked _ 110 _ | exact rd_drewN (rd_marked _ 109 _) _ | exact rd_drewN (rd_marked _ 110 _) _) (by decide)).mono ?_; rintro e w2 ⟨rfl, hb2⟩; (first | rw [HM.out] | rw [HN.out] | rw [unit0]); have HB' := Lib.hid (bl_bl (by repeat (first | exact HB.out | apply bl_drew | apply bl_drewN | apply bl_alloc)) hb2); have HS' := Lib.hid (SA.below (by repeat (first | exact HS.out | apply SA.drew | apply SA.drewN | apply SA.alloc)) hb2); clear hb2; have HB := HB'; have HS := HS'; clear HB' HS') | (go_at_call 14; refine (put_any _ _ _ (by omega) (by omega) (by omega) (by omega)).mono ?_; rintro e w2 ⟨u2, rfl, hu2, hb2⟩; obtain ⟨a2, c2, rfl⟩ := hu2.rd.shape; rw [putF_len]; have HB' := Lib.hid (bl_bl (by repeat (first | exact HB.out | apply bl_drew | apply bl_drewN | apply bl_alloc)) hb2); have HS' := Lib.hid (SA.below (by repeat (first | exact HS.out | apply SA.drew | apply SA.drewN | apply SA.alloc)) hb2); clear hb2 hu2; have HB := HB'; have HS := HS'; clear HB' HS'))
          refine hK.out _ _ ?_ (fun hHeld => ?_)
          · (try dsimp only); (first | (refine SA.cells ?_; repeat (first | exact HS.out | apply SA.drew | apply SA.drewN | apply SA.alloc)))
          clear hK K 
          try simp only [Act.put, List.setIfInBounds_toArray, List.set_cons_zero, List.set_cons_succ]
          refine wpAnyH_take (i := 5) (v := ?_) (by simp only [List.getElem?_toArray, List.getElem?_cons_succ, List.getElem?_cons_zero]; first | done | rfl) (by kernel_rfl) (by kernel_rfl) (by kernel_rfl) (fun _ _ _ h => h) (Or.inl ⟨by rfl, ?hy⟩) (by assumption) ?_
          case hy => (intro w hSw; (try dsimp only at hSw); go_simp; all_goals with_reducible rfl)
          try simp only [Act.put, List.setIfInBounds_toArray, List.set_cons_zero, List.set_cons_succ]
          refine wpAnyH_take (i := 9) (v := ?_) (by simp only [List.getElem?_toArray, List.getElem?_cons_succ, List.getElem?_cons_zero]; first | done | rfl) (by kernel_rfl) (by kernel_rfl) (by kernel_rfl) (fun _ _ _ h => h) (Or.inl ⟨by rfl, ?hy⟩) (by assumption) ?_
          case hy => (intro w hSw; (try dsimp only at hSw); go_simp; all_goals with_reducible rfl)
          try simp only [Act.put, List.setIfInBounds_toArray, List.set_cons_zero, List.set_cons_succ]
          refine wpAnyH_ready (rs := [6, 7]) (by kernel_rfl) (by simp) ?_
          refine AllReadyH.cons (by simp only [List.getElem?_toArray, List.getElem?_cons_succ, List.getElem?_cons_zero]; first | done | rfl) (fun K hK => ?_) ?_
          · go_simp
            (first | (go_at_call 12; refine (public_any _ _ (by omega) (by omega)).mono ?_; rintro e w2 ⟨rfl, n2, rfl⟩; (try rw [pub0]); (try rw [pub1])) | (go_at_call 13; refine (check_any _ _ _ _ _ _ (by omega) (by omega) (by omega) (by omega) (by omega) (by omega) (by first | exact rd_marked _ 109 _ | exact rd_marked _ 110 _ | exact rd_drewN (rd_marked _ 109 _) _ | exact rd_drewN (rd_marked _ 110 _) _) (by decide)).mono ?_; rintro e w2 ⟨rfl, hb2⟩; (first | rw [HM.out] | rw [HN.out] | rw [unit0]); have HB' := Lib.hid (bl_bl (by repeat (first | exact HB.out | apply bl_drew | apply bl_drewN | apply bl_alloc)) hb2); have HS' := Lib.hid (SA.below (by repeat (first | exact HS.out | apply SA.drew | apply SA.drewN | apply SA.alloc)) hb2); clear hb2; have HB := HB'; have HS := HS'; clear HB' HS') | (go_at_call 14; refine (put_any _ _ _ (by omega) (by omega) (by omega) (by omega)).mono ?_; rintro e w2 ⟨u2, rfl, hu2, hb2⟩; obtain ⟨a2, c2, rfl⟩ := hu2.rd.shape; rw [putF_len]; have HB' := Lib.hid (bl_bl (by repeat (first | exact HB.out | apply bl_drew | apply bl_drewN | apply bl_alloc)) hb2); have HS' := Lib.hid (SA.below (by repeat (first | exact HS.out | apply SA.drew | apply SA.drewN | apply SA.alloc)) hb2); clear hb2 hu2; have HB := HB'; have HS := HS'; clear HB' HS'))
            refine hK.out _ _ ?_ (fun hHeld => ?_)
            · (try dsimp only); (first | (refine SA.cells ?_; repeat (first | exact HS.out | apply SA.drew | apply SA.drewN | apply SA.alloc)))
            clear hK K 
            try simp only [Act.put, List.setIfInBounds_toArray, List.set_cons_zero, List.set_cons_succ]
            refine wpAnyH_ready (rs := [7]) (by kernel_rfl) (by simp) ?_
            refine AllReadyH.cons (by simp only [List.getElem?_toArray, List.getElem?_cons_succ, List.getElem?_cons_zero]; first | done | rfl) (fun K hK => ?_) ?_
            · go_simp
              refine hK.out _ _ ?_ (fun hHeld => ?_)
              · (try dsimp only); (first | (refine SA.cells ?_; repeat (first | exact HS.out | apply SA.drew | apply SA.drewN | apply SA.alloc)))
              clear hK K 
              try simp only [Act.put, List.setIfInBounds_toArray, List.set_cons_zero, List.set_cons_succ]
              refine wpAnyH_ready (rs := [8]) (by kernel_rfl) (by simp) ?_
              refine AllReadyH.cons (by simp only [List.getElem?_toArray, List.getElem?_cons_succ, List.getElem?_cons_zero]; first | done | rfl) (fun K hK => ?_) ?_
              · go_simp
                refine hK.out _ _ ?_ (fun hHeld => ?_)
                · (try dsimp only); (first | (refine SA.cells ?_; repeat (first | exact HS.out | apply SA.drew | apply SA.drewN | apply SA.alloc)))
                clear hK K 
                try simp only [Act.put, List.setIfInBounds_toArray, List.set_cons_zero, List.set_cons_succ]
                refine wpAnyH_ready (rs := [10]) (by kernel_rfl) (by simp) ?_
                refine AllReadyH.cons (by simp only [List.getElem?_toArray, List.getElem?_cons_succ, List.getElem?_cons_zero]; first | done | rfl) (fun K hK => ?_) ?_
                · go_simp
                  (first | (go_at_call 12; refine (public_any _ _ (by omega) (by omega)).mono ?_; rintro e w2 ⟨rfl, n2, rfl⟩; (try rw [pub0]); (try rw [pub1])) | (go_at_call 13; refine (check_any _ _ _ _ _ _ (by omega) (by omega) (by omega) (by omega) (by omega) (by omega) (by first | exact rd_marked _ 109 _ | exact rd_marked _ 110 _ | exact rd_drewN (rd_marked _ 109 _) _ | exact rd_drewN (rd_marked _ 110 _) _) (by decide)).mono ?_; rintro e w2 ⟨rfl, hb2⟩; (first | rw [HM.out] | rw [HN.out] | rw [unit0]); have HB' := Lib.hid (bl_bl (by repeat (first | exact HB.out | apply bl_drew | apply bl_drewN | apply bl_alloc)) hb2); have HS' := Lib.hid (SA.below (by repeat (first | exact HS.out | apply SA.drew | apply SA.drewN | apply SA.alloc)) hb2); clear hb2; have HB := HB'; have HS := HS'; clear HB' HS') | (go_at_call 14; refine (put_any _ _ _ (by omega) (by omega) (by omega) (by omega)).mono ?_; rintro e w2 ⟨u2, rfl, hu2, hb2⟩; obtain ⟨a2, c2, rfl⟩ := hu2.rd.shape; rw [putF_len]; have HB' := Lib.hid (bl_bl (by repeat (first | exact HB.out | apply bl_drew | apply bl_drewN | apply bl_alloc)) hb2); have HS' := Lib.hid (SA.below (by repeat (first | exact HS.out | apply SA.drew | apply SA.drewN | apply SA.alloc)) hb2); clear hb2 hu2; have HB := HB'; have HS := HS'; clear HB' HS'))
                  refine hK.out _ _ ?_ (fun hHeld => ?_)
                  · (try dsimp only); (first | (refine SA.cells ?_; repeat (first | exact HS.out | apply SA.drew | apply SA.drewN | apply SA.alloc)))
                  clear hK K 
                  try simp only [Act.put, List.setIfInBounds_toArray, List.set_cons_zero, List.set_cons_succ]
                  refine wpAnyH_take (i := 11) (v := ?_) (by simp only [List.getElem?_toArray, List.getElem?_cons_succ, List.getElem?_cons_zero]; first | done | rfl) (by kernel_rfl) (by kernel_rfl) (by kernel_rfl) (fun _ _ _ h => h) (Or.inl ⟨by rfl, ?hy⟩) (by assumption) ?_
                  case hy => (intro w hSw; (try dsimp only at hSw); go_simp; all_goals with_reducible rfl)
                  try simp only [Act.put, List.setIfInBounds_toArray, List.set_cons_zero, List.set_cons_succ]
                  refine wpAnyH_take (i := 12) (v := ?_) (by simp only [List.getElem?_toArray, List.getElem?_cons_succ, List.getElem?_cons_zero]; first | done | rfl) (by kernel_rfl) (by kernel_rfl) (by kernel_rfl) (fun _ _ _ h => h) (Or.inl ⟨by rfl, ?hy⟩) (by assumption) ?_
                  case hy => (intro w hSw; (try dsimp only at hSw); go_simp; all_goals with_reducible rfl)
                  try simp only [Act.put, List.setIfInBounds_toArray, List.set_cons_zero, List.set_cons_succ]
                  refine wpAnyH_take (i := 13) (v := ?_) (by simp only [List.getElem?_toArray, List.getElem?_cons_succ, List.getElem?_cons_zero]; first | done | rfl) (by kernel_rfl) (by kernel_rfl) (by kernel_rfl) (fun _ _ _ h => h) (Or.inl ⟨by rfl, ?hy⟩) (by assumption) ?_
                  case hy => (intro w hSw; (try dsimp only at hSw); go_simp; all_goals with_reducible rfl)
                  try simp only [Act.put, List.setIfInBounds_toArray, List.set_cons_zero, List.set_cons_succ]
                  refine wpAnyH_take (i := 16) (v := ?_) (by simp only [List.getElem?_toArray, List.getElem?_cons_succ, List.getElem?_cons_zero]; first | done | rfl) (by kernel_rfl) (by kernel_rfl) (by kernel_rfl) (fun _ _ _ h => h) (Or.inl ⟨by rfl, ?hy⟩) (by assumption) ?_
                  case hy => (intro w hSw; (try dsimp only at hSw); go_simp; all_goals with_reducible rfl)
                  try simp only [Act.put, List.setIfInBounds_toArray, List.set_cons_zero, List.set_cons_succ]
                  refine wpAnyH_ready (rs := [14]) (by kernel_rfl) (by simp) ?_
                  refine AllReadyH.cons (by simp only [List.getElem?_toArray, List.getElem?_cons_succ, List.getElem?_cons_zero]; first | done | rfl) (fun K hK => ?_) ?_
                  · go_simp
                    refine hK.out _ _ ?_ (fun hHeld => ?_)
                    · (try dsimp only); (first | (refine SA.cells ?_; repeat (first | exact HS.out | apply SA.drew | apply SA.drewN | apply SA.alloc)))
                    clear hK K 
                    try simp only [Act.put, List.setIfInBounds_toArray, List.set_cons_zero, List.set_cons_succ]
                    refine wpAnyH_ready (rs := [15]) (by kernel_rfl) (by simp) ?_
                    refine AllReadyH.cons (by simp only [List.getElem?_toArray, List.getElem?_cons_succ, List.getElem?_cons_zero]; first | done | rfl) (fun K hK => ?_) ?_
                    · go_simp
                      refine hK.out _ _ ?_ (fun hHeld => ?_)
                      · (try dsimp only); (first | (refine SA.cells ?_; repeat (first | exact HS.out | apply SA.drew | apply SA.drewN | apply SA.alloc)))
                      clear hK K 
                      try simp only [Act.put, List.setIfInBounds_toArray, List.set_cons_zero, List.set_cons_succ]
                      refine wpAnyH_ready (rs := [17]) (by kernel_rfl) (by simp) ?_
                      refine AllReadyH.cons (by simp only [List.getElem?_toArray, List.getElem?_cons_succ, List.getElem?_cons_zero]; first | done | rfl) (fun K hK => ?_) ?_
                      · go_simp
                        (first | (go_at_call 12; refine (public_any _ _ (by omega) (by omega)).mono ?_; rintro e w2 ⟨rfl, n2, rfl⟩; (try rw [pub0]); (try rw [pub1])) | (go_at_call 13; refine (check_any _ _ _ _ _ _ (by omega) (by omega) (by omega) (by omega) (by omega) (by omega) (by first | exact rd_marked _ 109 _ | exact rd_marked _ 110 _ | exact rd_drewN (rd_marked _ 109 _) _ | exact rd_drewN (rd_marked _ 110 _) _) (by decide)).mono ?_; rintro e w2 ⟨rfl, hb2⟩; (first | rw [HM.out] | rw [HN.out] | rw [unit0]); have HB' := Lib.hid (bl_bl (by repeat (first | exact HB.out | apply bl_drew | apply bl_drewN | apply bl_alloc)) hb2); have HS' := Lib.hid (SA.below (by repeat (first | exact HS.out | apply SA.drew | apply SA.drewN | apply SA.alloc)) hb2); clear hb2; have HB := HB'; have HS := HS'; clear HB' HS') | (go_at_call 14; refine (put_any _ _ _ (by omega) (by omega) (by omega) (by omega)).mono ?_; rintro e w2 ⟨u2, rfl, hu2, hb2⟩; obtain ⟨a2, c2, rfl⟩ := hu2.rd.shape; rw [putF_len]; have HB' := Lib.hid (bl_bl (by repeat (first | exact HB.out | apply bl_drew | apply bl_drewN | apply bl_alloc)) hb2); have HS' := Lib.hid (SA.below (by repeat (first | exact HS.out | apply SA.drew | apply SA.drewN | apply SA.alloc)) hb2); clear hb2 hu2; have HB := HB'; have HS := HS'; clear HB' HS'))
                        refine hK.out _ _ ?_ (fun hHeld => ?_)
                        · (try dsimp only); (first | (refine SA.cells ?_; repeat (first | exact HS.out | apply SA.drew | apply SA.drewN | apply SA.alloc)))
                        clear hK K 
                        try simp only [Act.put, List.setIfInBounds_toArray, List.set_cons_zero, List.set_cons_succ]
                        refine wpAnyH_take (i := 18) (v := ?_) (by simp only [List.getElem?_toArray, List.getElem?_cons_succ, List.getElem?_cons_zero]; first | done | rfl) (by kernel_rfl) (by kernel_rfl) (by kernel_rfl) (fun _ _ _ h => h) (Or.inl ⟨by rfl, ?hy⟩) (by assumption) ?_
                        case hy => (intro w hSw; (try dsimp only at hSw); go_simp; all_goals with_reducible rfl)
                        try simp only [Act.put, List.setIfInBounds_toArray, List.set_cons_zero, List.set_cons_succ]
                        refine wpAnyH_take (i := 19) (v := ?_) (by simp only [List.getElem?_toArray, List.getElem?_cons_succ, List.getElem?_cons_zero]; first | done | rfl) (by kernel_rfl) (by kernel_rfl) (by kernel_rfl) (fun _ _ _ h => h) (Or.inl ⟨by rfl, ?hy⟩) (by assumption) ?_
                        case hy => (intro w hSw; (try dsimp only at hSw); go_simp; all_goals with_reducible rfl)
                        try simp only [Act.put, List.setIfInBounds_toArray, List.set_cons_zero, List.set_cons_succ]
                        refine wpAnyH_take (i := 20) (v := ?_) (by simp only [List.getElem?_toArray, List.getElem?_cons_succ, List.getElem?_cons_zero]; first | done | rfl) (by kernel_rfl) (by kernel_rfl) (by kernel_rfl) (fun _ _ _ h => h) (Or.inl ⟨by rfl, ?hy⟩) (by assumption) ?_
                        case hy => (intro w hSw; (try dsimp only at hSw); go_simp; all_goals with_reducible rfl)
                        try simp only [Act.put, List.setIfInBounds_toArray, List.set_cons_zero, List.set_cons_succ]
                        refine wpAnyH_ready (rs := [21]) (by kernel_rfl) (by simp) ?_
                        refine AllReadyH.cons (by simp only [List.getElem?_toArray, List.getElem?_cons_succ, List.getElem?_cons_zero]; first | done | rfl) (fun K hK => ?_) ?_
                        · go_simp
                          (first | (go_at_call 12; refine (public_any _ _ (by omega) (by omega)).mono ?_; rintro e w2 ⟨rfl, n2, rfl⟩; (try rw [pub0]); (try rw [pub1])) | (go_at_call 13; refine (check_any _ _ _ _ _ _ (by omega) (by omega) (by omega) (by omega) (by omega) (by omega) (by first | exact rd_marked _ 109 _ | exact rd_marked _ 110 _ | exact rd_drewN (rd_marked _ 109 _) _ | exact rd_drewN (rd_marked _ 110 _) _) (by decide)).mono ?_; rintro e w2 ⟨rfl, hb2⟩; (first | rw [HM.out] | rw [HN.out] | rw [unit0]); have HB' := Lib.hid (bl_bl (by repeat (first | exact HB.out | apply bl_drew | apply bl_drewN | apply bl_alloc)) hb2); have HS' := Lib.hid (SA.below (by repeat (first | exact HS.out | apply SA.drew | apply SA.drewN | apply SA.alloc)) hb2); clear hb2; have HB := HB'; have HS := HS'; clear HB' HS') | (go_at_call 14; refine (put_any _ _ _ (by omega) (by omega) (by omega) (by omega)).mono ?_; rintro e w2 ⟨u2, rfl, hu2, hb2⟩; obtain ⟨a2, c2, rfl⟩ := hu2.rd.shape; rw [putF_len]; have HB' := Lib.hid (bl_bl (by repeat (first | exact HB.out | apply bl_drew | apply bl_drewN | apply bl_alloc)) hb2); have HS' := Lib.hid (SA.below (by repeat (first | exact HS.out | apply SA.drew | apply SA.drewN | apply SA.alloc)) hb2); clear hb2 hu2; have HB := HB'; have HS := HS'; clear HB' HS'))
                          refine hK.out _ _ ?_ (fun hHeld => ?_)
                          · (try dsimp only); (first | (refine SA.cells ?_; repeat (first | exact HS.out | apply SA.drew | apply SA.drewN | apply SA.alloc)))
                          clear hK K 
                          try simp only [Act.put, List.setIfInBounds_toArray, List.set_cons_zero, List.set_cons_succ]
                          refine wpAnyH_take (i := 22) (v := ?_) (by simp only [List.getElem?_toArray, List.getElem?_cons_succ, List.getElem?_cons_zero]; first | done | rfl) (by kernel_rfl) (by kernel_rfl) (by kernel_rfl) (fun _ _ _ h => h) (Or.inl ⟨by rfl, ?hy⟩) (by assumption) ?_
                          case hy => (intro w hSw; (try dsimp only at hSw); go_simp; all_goals with_reducible rfl)
                          try simp only [Act.put, List.setIfInBounds_toArray, List.set_cons_zero, List.set_cons_succ]
                          refine wpAnyH_take (i := 23) (v := ?_) (by simp only [List.getElem?_toArray, List.getElem?_cons_succ, List.getElem?_cons_zero]; first | done | rfl) (by kernel_rfl) (by kernel_rfl) (by kernel_rfl) (fun _ _ _ h => h) (Or.inl ⟨by rfl, ?hy⟩) (by assumption) ?_
                          case hy => (intro w hSw; (try dsimp only at hSw); go_simp; all_goals with_reducible rfl)
                          try simp only [Act.put, List.setIfInBounds_toArray, List.set_cons_zero, List.set_cons_succ]
                          refine wpAnyH_take (i := 24) (v := ?_) (by simp only [List.getElem?_toArray, List.getElem?_cons_succ, List.getElem?_cons_zero]; first | done | rfl) (by kernel_rfl) (by kernel_rfl) (by kernel_rfl) (fun _ _ _ h => h) (Or.inl ⟨by rfl, ?hy⟩) (by assumption) ?_
                          case hy => (intro w hSw; (try dsimp only at hSw); go_simp; all_goals with_reducible rfl)
                          try simp only [Act.put, List.setIfInBounds_toArray, List.set_cons_zero, List.set_cons_succ]
                          refine wpAnyH_ready (rs := [25]) (by kernel_rfl) (by simp) ?_
                          refine AllReadyH.cons (by simp only [List.getElem?_toArray, List.getElem?_cons_succ, List.getElem?_cons_zero]; first | done | rfl) (fun K hK => ?_) ?_
                          · go_simp
                            (first | (go_at_call 12; refine (public_any _ _ (by omega) (by omega)).mono ?_; rintro e w2 ⟨rfl, n2, rfl⟩; (try rw [pub0]); (try rw [pub1])) | (go_at_call 13; refine (check_any _ _ _ _ _ _ (by omega) (by omega) (by omega) (by omega) (by omega) (by omega) (by first | exact rd_marked _ 109 _ | exact rd_marked _ 110 _ | exact rd_drewN (rd_marked _ 109 _) _ | exact rd_drewN (rd_marked _ 110 _) _) (by decide)).mono ?_; rintro e w2 ⟨rfl, hb2⟩; (first | rw [HM.out] | rw [HN.out] | rw [unit0]); have HB' := Lib.hid (bl_bl (by repeat (first | exact HB.out | apply bl_drew | apply bl_drewN | apply bl_alloc)) hb2); have HS' := Lib.hid (SA.below (by repeat (first | exact HS.out | apply SA.drew | apply SA.drewN | apply SA.alloc)) hb2); clear hb2; have HB := HB'; have HS := HS'; clear HB' HS') | (go_at_call 14; refine (put_any _ _ _ (by omega) (by omega) (by omega) (by omega)).mono ?_; rintro e w2 ⟨u2, rfl, hu2, hb2⟩; obtain ⟨a2, c2, rfl⟩ := hu2.rd.shape; rw [putF_len]; have HB' := Lib.hid (bl_bl (by repeat (first | exact HB.out | apply bl_drew | apply bl_drewN | apply bl_alloc)) hb2); have HS' := Lib.hid (SA.below (by repeat (first | exact HS.out | apply SA.drew | apply SA.drewN | apply SA.alloc)) hb2); clear hb2 hu2; have HB := HB'; have HS := HS'; clear HB' HS'))
                            refine hK.out _ _ ?_ (fun hHeld => ?_)
                            · (try dsimp only); (first | (refine SA.cells ?_; repeat (first | exact HS.out | apply SA.drew | apply SA.drewN | apply SA.alloc)))
                            clear hK K 
                            try simp only [Act.put, List.setIfInBounds_toArray, List.set_cons_zero, List.set_cons_succ]
                            refine wpAnyH_take (i := 26) (v := ?_) (by simp only [List.getElem?_toArray, List.getElem?_cons_succ, List.getElem?_cons_zero]; first | done | rfl) (by kernel_rfl) (by kernel_rfl) (by kernel_rfl) (fun _ _ _ h => h) (Or.inl ⟨by rfl, ?hy⟩) (by assumption) ?_
                            case hy => (intro w hSw; (try dsimp only at hSw); go_simp; all_goals with_reducible rfl)
                            try simp only [Act.put, List.setIfInBounds_toArray, List.set_cons_zero, List.set_cons_succ]
                            refine wpAnyH_take (i := 27) (v := ?_) (by simp only [List.getElem?_toArray, List.getElem?_cons_succ, List.getElem?_cons_zero]; first | done | rfl) (by kernel_rfl) (by kernel_rfl) (by kernel_rfl) (fun _ _ _ h => h) (Or.inl ⟨by rfl, ?hy⟩) (by assumption) ?_
                            case hy => (intro w hSw; (try dsimp only at hSw); go_simp; all_goals with_reducible rfl)
                            try simp only [Act.put, List.setIfInBounds_toArray, List.set_cons_zero, List.set_cons_succ]
                            refine wpAnyH_take (i := 28) (v := ?_) (by simp only [List.getElem?_toArray, List.getElem?_cons_succ, List.getElem?_cons_zero]; first | done | rfl) (by kernel_rfl) (by kernel_rfl) (by kernel_rfl) (fun _ _ _ h => h) (Or.inl ⟨by rfl, ?hy⟩) (by assumption) ?_
                            case hy => (intro w hSw; (try dsimp only at hSw); go_simp; all_goals with_reducible rfl)
                            try simp only [Act.put, List.setIfInBounds_toArray, List.set_cons_zero, List.set_cons_succ]
                            refine wpAnyH_take (i := 29) (v := ?_) (by simp only [List.getElem?_toArray, List.getElem?_cons_succ, List.getElem?_cons_zero]; first | done | rfl) (by kernel_rfl) (by kernel_rfl) (by kernel_rfl) (fun _ _ _ h => h) (Or.inl ⟨by rfl, ?hy⟩) (by assumption) ?_
                            case hy => (intro w hSw; (try dsimp only at hSw); go_simp; all_goals with_reducible rfl)
                            try simp only [Act.put, List.setIfInBounds_toArray, List.set_cons_zero, List.set_cons_succ]
                            refine wpAnyH_ready (rs := [30]) (by kernel_rfl) (by simp) ?_
                            refine AllReadyH.cons (by simp only [List.getElem?_toArray, List.getElem?_cons_succ, List.getElem?_cons_zero]; first | done | rfl) (fun K hK => ?_) ?_
                            · go_simp
                              (first | (go_at_call 12; refine (public_any _ _ (by omega) (by omega)).mono ?_; rintro e w2 ⟨rfl, n2, rfl⟩; (try rw [pub0]); (try rw [pub1])) | (go_at_call 13; refine (check_any _ _ _ _ _ _ (by omega) (by omega) (by omega) (by omega) (by omega) (by omega) (by first | exact rd_marked _ 109 _ | exact rd_marked _ 110 _ | exact rd_drewN (rd_marked _ 109 _) _ | exact rd_drewN (rd_marked _ 110 _) _) (by decide)).mono ?_; rintro e w2 ⟨rfl, hb2⟩; (first | rw [HM.out] | rw [HN.out] | rw [unit0]); have HB' := Lib.hid (bl_bl (by repeat (first | exact HB.out | apply bl_drew | apply bl_drewN | apply bl_alloc)) hb2); have HS' := Lib.hid (SA.below (by repeat (first | exact HS.out | apply SA.drew | apply SA.drewN | apply SA.alloc)) hb2); clear hb2; have HB := HB'; have HS := HS'; clear HB' HS') | (go_at_call 14; refine (put_any _ _ _ (by omega) (by omega) (by omega) (by omega)).mono ?_; rintro e w2 ⟨u2, rfl, hu2, hb2⟩; obtain ⟨a2, c2, rfl⟩ := hu2.rd.shape; rw [putF_len]; have HB' := Lib.hid (bl_bl (by repeat (first | exact HB.out | apply bl_drew | apply bl_drewN | apply bl_alloc)) hb2); have HS' := Lib.hid (SA.below (by repeat (first | exact HS.out | apply SA.drew | apply SA.drewN | apply SA.alloc)) hb2); clear hb2 hu2; have HB := HB'; have HS := HS'; clear HB' HS'))
                              refine hK.out _ _ ?_ (fun hHeld => ?_)
                              · (try dsimp only); (first | (refine SA.cells ?_; repeat (first | exact HS.out | apply SA.drew | apply SA.drewN | apply SA.alloc)))
                              clear hK K 
                              try simp only [Act.put, List.setIfInBounds_toArray, List.set_cons_zero, List.set_cons_succ]
                              refine wpAnyH_take (i := 31) (v := ?_) (by simp only [List.getElem?_toArray, List.getElem?_cons_succ, List.getElem?_cons_zero]; first | done | rfl) (by kernel_rfl) (by kernel_rfl) (by kernel_rfl) (fun _ _ _ h => h) (Or.inl ⟨by rfl, ?hy⟩) (by assumption) ?_
                              case hy => (intro w hSw; (try dsimp only at hSw); go_simp; all_goals with_reducible rfl)
                              try simp only [Act.put, List.setIfInBounds_toArray, List.set_cons_zero, List.set_cons_succ]
                              refine wpAnyH_take (i := 32) (v := ?_) (by simp only [List.getElem?_toArray, List.getElem?_cons_succ, List.getElem?_cons_zero]; first | done | rfl) (by kernel_rfl) (by kernel_rfl) (by kernel_rfl) (fun _ _ _ h => h) (Or.inl ⟨by rfl, ?hy⟩) (by assumption) ?_
                              case hy => (intro w hSw; (try dsimp only at hSw); go_simp; all_goals with_reducible rfl)
                              try simp only [Act.put, List.setIfInBounds_toArray, List.set_cons_zero, List.set_cons_succ]
                              refine wpAnyH_take (i := 33) (v := ?_) (by simp only [List.getElem?_toArray, List.getElem?_cons_succ, List.getElem?_cons_zero]; first | done | rfl) (by kernel_rfl) (by kernel_rfl) (by kernel_rfl) (fun _ _ _ h => h) (Or.inl ⟨by rfl, ?hy⟩) (by assumption) ?_
                              case hy => (intro w hSw; (try dsimp only at hSw); go_simp; all_goals with_reducible rfl)
                              try simp only [Act.put, List.setIfInBounds_toArray, List.set_cons_zero, List.set_cons_succ]
                              refine wpAnyH_take (i := 34) (v := ?_) (by simp only [List.getElem?_toArray, List.getElem?_cons_succ, List.getElem?_cons_zero]; first | done | rfl) (by kernel_rfl) (by kernel_rfl) (by kernel_rfl) (fun _ _ _ h => h) (Or.inl ⟨by rfl, ?hy⟩) (by assumption) ?_
                              case hy => (intro w hSw; (try dsimp only at hSw); go_simp; all_goals with_reducible rfl)
                              try simp only [Act.put, List.setIfInBounds_toArray, List.set_cons_zero, List.set_cons_succ]
                              refine wpAnyH_done (by kernel_rfl) ?_ _
                              (refine NoPanic.normal ?_; go_wp2_with fail; go_ret; exact ⟨rfl, HB.out⟩)
                            exact AllReadyH.nil
                          exact AllReadyH.nil
                        exact AllReadyH.nil
                      exact AllReadyH.nil
                    exact AllReadyH.nil
                  exact AllReadyH.nil
                exact AllReadyH.nil
              exact AllReadyH.nil
            exact AllReadyH.nil
          refine AllReadyH.cons (by simp only [List.getElem?_toArray, List.getElem?_cons_succ, List.getElem?_cons_zero]; first | done | rfl) (fun K hK => ?_) ?_
          · go_simp
            refine hK.out _ _ ?_ (fun hHeld => ?_)
            · (try dsimp only); (first | (refine SA.cells ?_; repeat (first | exact HS.out | apply SA.drew | apply SA.drewN | apply SA.alloc)))
            clear hK K 
            try simp only [Act.put, List.setIfInBounds_toArray, List.set_cons_zero, List.set_cons_succ]
            refine wpAnyH_ready (rs := [6, 8]) (by kernel_rfl) (by simp) ?_
            refine AllReadyH.cons (by simp only [List.getElem?_toArray, List.getElem?_cons_succ, List.getElem?_cons_zero]; first | done | rfl) (fun K hK => ?_) ?_
            · go_simp
              (first | (go_at_call 12; refine (public_any _ _ (by omega) (by omega)).mono ?_; rintro e w2 ⟨rfl, n2, rfl⟩; (try rw [pub0]); (try rw [pub1])) | (go_at_call 13; refine (check_any _ _ _ _ _ _ (by omega) (by omega) (by omega) (by omega) (by omega) (by omega) (by first | exact rd_marked _ 109 _ | exact rd_marked _ 110 _ | exact rd_drewN (rd_marked _ 109 _) _ | exact rd_drewN (rd_marked _ 110 _) _) (by decide)).mono ?_; rintro e w2 ⟨rfl, hb2⟩; (first | rw [HM.out] | rw [HN.out] | rw [unit0]); have HB' := Lib.hid (bl_bl (by repeat (first | exact HB.out | apply bl_drew | apply bl_drewN | apply bl_alloc)) hb2); have HS' := Lib.hid (SA.below (by repeat (first | exact HS.out | apply SA.drew | apply SA.drewN | apply SA.alloc)) hb2); clear hb2; have HB := HB'; have HS := HS'; clear HB' HS') | (go_at_call 14; refine (put_any _ _ _ (by omega) (by omega) (by omega) (by omega)).mono ?_; rintro e w2 ⟨u2, rfl, hu2, hb2⟩; obtain ⟨a2, c2, rfl⟩ := hu2.rd.shape; rw [putF_len]; have HB' := Lib.hid (bl_bl (by repeat (first | exact HB.out | apply bl_drew | apply bl_drewN | apply bl_alloc)) hb2); have HS' := Lib.hid (SA.below (by repeat (first | exact HS.out | apply SA.drew | apply SA.drewN | apply SA.alloc)) hb2); clear hb2 hu2; have HB := HB'; have HS := HS'; clear HB' HS'))
              refine hK.out _ _ ?_ (fun hHeld => ?_)
              · (try dsimp only); (first | (refine SA.cells ?_; repeat (first | exact HS.out | apply SA.drew | apply SA.drewN | apply SA.alloc)))
              clear hK K 
              try simp only [Act.put, List.setIfInBounds_toArray, List.set_cons_zero, List.set_cons_succ]
              refine wpAnyH_ready (rs := [8]) (by kernel_rfl) (by simp) ?_
              refine AllReadyH.cons (by simp only [List.getElem?_toArray, List.getElem?_cons_succ, List.getElem?_cons_zero]; first | done | rfl) (fun K hK => ?_) ?_
              · go_simp
                refine hK.out _ _ ?_ (fun hHeld => ?_)
                · (try dsimp only); (first | (refine SA.cells ?_; repeat (first | exact HS.out | apply SA.drew | apply SA.drewN | apply SA.alloc)))
                clear hK K 
                try simp only [Act.put, List.setIfInBounds_toArray, List.set_cons_zero, List.set_cons_succ]
                refine wpAnyH_ready (rs := [10]) (by kernel_rfl) (by simp) ?_
                refine AllReadyH.cons (by simp only [List.getElem?_toArray, List.getElem?_cons_succ, List.getElem?_cons_zero]; first | done | rfl) (fun K hK => ?_) ?_
                · go_simp
                  (first | (go_at_call 12; refine (public_any _ _ (by omega) (by omega)).mono ?_; rintro e w2 ⟨rfl, n2, rfl⟩; (try rw [pub0]); (try rw [pub1])) | (go_at_call 13; refine (check_any _ _ _ _ _ _ (by omega) (by omega) (by omega) (by omega) (by omega) (by omega) (by first | exact rd_marked _ 109 _ | exact rd_marked _ 110 _ | exact rd_drewN (rd_marked _ 109 _) _ | exact rd_drewN (rd_marked _ 110 _) _) (by decide)).mono ?_; rintro e w2 ⟨rfl, hb2⟩; (first | rw [HM.out] | rw [HN.out] | rw [unit0]); have HB' := Lib.hid (bl_bl (by repeat (first | exact HB.out | apply bl_drew | apply bl_drewN | apply bl_alloc)) hb2); have HS' := Lib.hid (SA.below (by repeat (first | exact HS.out | apply SA.drew | apply SA.drewN | apply SA.alloc)) hb2); clear hb2; have HB := HB'; have HS := HS'; clear HB' HS') | (go_at_call 14; refine (put_any _ _ _ (by omega) (by omega) (by omega) (by omega)).mono ?_; rintro e w2 ⟨u2, rfl, hu2, hb2⟩; obtain ⟨a2, c2, rfl⟩ := hu2.rd.shape; rw [putF_len]; have HB' := Lib.hid (bl_bl (by repeat (first | exact HB.out | apply bl_drew | apply bl_drewN | apply bl_alloc)) hb2); have HS' := Lib.hid (SA.below (by repeat (first | exact HS.out | apply SA.drew | apply SA.drewN | apply SA.alloc)) hb2); clear hb2 hu2; have HB := HB'; have HS := HS'; clear HB' HS'))
                  refine hK.out _ _ ?_ (fun hHeld => ?_)
                  · (try dsimp only); (first | (refine SA.cells ?_; repeat (first | exact HS.out | apply SA.drew | apply SA.drewN | apply SA.alloc)))
                  clear hK K 
                  try simp only [Act.put, List.setIfInBounds_toArray, List.set_cons_zero, List.set_cons_succ]
                  refine wpAnyH_take (i := 11) (v := ?_) (by simp only [List.getElem?_toArray, List.getElem?_cons_succ, List.getElem?_cons_zero]; first | done | rfl) (by kernel_rfl) (by kernel_rfl) (by kernel_rfl) (fun _ _ _ h => h) (Or.inl ⟨by rfl, ?hy⟩) (by assumption) ?_
                  case hy => (intro w hSw; (try dsimp only at hSw); go_simp; all_goals with_reducible rfl)
                  try simp only [Act.put, List.setIfInBounds_toArray, List.set_cons_zero, List.set_cons_succ]
                  refine wpAnyH_take (i := 12) (v := ?_) (by simp only [List.getElem?_toArray, List.getElem?_cons_succ, List.getElem?_cons_zero]; first | done | rfl) (by kernel_rfl) (by kernel_rfl) (by kernel_rfl) (fun _ _ _ h => h) (Or.inl ⟨by rfl, ?hy⟩) (by assumption) ?_
                  case hy => (intro w hSw; (try dsimp only at hSw); go_simp; all_goals with_reducible rfl)
                  try simp only [Act.put, List.setIfInBounds_toArray, List.set_cons_zero, List.set_cons_succ]
                  refine wpAnyH_take (i := 13) (v := ?_) (by simp only [List.getElem?_toArray, List.getElem?_cons_succ, List.getElem?_cons_zero]; first | done | rfl) (by kernel_rfl) (by kernel_rfl) (by kernel_rfl) (fun _ _ _ h => h) (Or.inl ⟨by rfl, ?hy⟩) (by assumption) ?_
                  case hy => (intro w hSw; (try dsimp only at hSw); go_simp; all_goals with_reducible rfl)
                  try simp only [Act.put, List.setIfInBounds_toArray, List.set_cons_zero, List.set_cons_succ]
                  refine wpAnyH_take (i := 16) (v := ?_) (by simp only [List.getElem?_toArray, List.getElem?_cons_succ, List.getElem?_cons_zero]; first | done | rfl) (by kernel_rfl) (by kernel_rfl) (by kernel_rfl) (fun _ _ _ h => h) (Or.inl ⟨by rfl, ?hy⟩) (by assumption) ?_
                  case hy => (intro w hSw; (try dsimp only at hSw); go_simp; all_goals with_reducible rfl)
                  try simp only [Act.put, List.setIfInBounds_toArray, List.set_cons_zero, List.set_cons_succ]
                  refine wpAnyH_ready (rs := [14]) (by kernel_rfl) (by simp) ?_
                  refine AllReadyH.cons (by simp only [List.getElem?_toArray, List.getElem?_cons_succ, List.getElem?_cons_zero]; first | done | rfl) (fun K hK => ?_) ?_
                  · go_simp
                    refine hK.out _ _ ?_ (fun hHeld => ?_)
                    · (try dsimp only); (first | (refine SA.cells ?_; repeat (first | exact HS.out | apply SA.drew | apply SA.drewN | apply SA.alloc)))
                    clear hK K 
                    try simp only [Act.put, List.setIfInBounds_toArray, List.set_cons_zero, List.set_cons_succ]
                    refine wpAnyH_ready (rs := [15]) (by kernel_rfl) (by simp) ?_
                    refine AllReadyH.cons (by simp only [List.getElem?_toArray, List.getElem?_cons_succ, List.getElem?_cons_zero]; first | done | rfl) (fun K hK => ?_) ?_
                    · go_simp
                      refine hK.out _ _ ?_ (fun hHeld => ?_)
                      · (try dsimp only); (first | (refine SA.cells ?_; repeat (first | exact HS.out | apply SA.drew | apply SA.drewN | apply SA.alloc)))
                      clear hK K 
                      try simp only [Act.put, List.setIfInBounds_toArray, List.set_cons_zero, List.set_cons_succ]
                      refine wpAnyH_ready (rs := [17]) (by kernel_rfl) (by simp) ?_
                      refine AllReadyH.cons (by simp only [List.getElem?_toArray, List.getElem?_cons_succ, List.getElem?_cons_zero]; first | done | rfl) (fun K hK => ?_) ?_
                      · go_simp
                        (first | (go_at_call 12; refine (public_any _ _ (by omega) (by omega)).mono ?_; rintro e w2 ⟨rfl, n2, rfl⟩; (try rw [pub0]); (try rw [pub1])) | (go_at_call 13; refine (check_any _ _ _ _ _ _ (by omega) (by omega) (by omega) (by omega) (by omega) (by omega) (by first | exact rd_marked _ 109 _ | exact rd_marked _ 110 _ | exact rd_drewN (rd_marked _ 109 _) _ | exact rd_drewN (rd_marked _ 110 _) _) (by decide)).mono ?_; rintro e w2 ⟨rfl, hb2⟩; (first | rw [HM.out] | rw [HN.out] | rw [unit0]); have HB' := Lib.hid (bl_bl (by repeat (first | exact HB.out | apply bl_drew | apply bl_drewN | apply bl_alloc)) hb2); have HS' := Lib.hid (SA.below (by repeat (first | exact HS.out | apply SA.drew | apply SA.drewN | apply SA.alloc)) hb2); clear hb2; have HB := HB'; have HS := HS'; clear HB' HS') | (go_at_call 14; refine (put_any _ _ _ (by omega) (by omega) (by omega) (by omega)).mono ?_; rintro e w2 ⟨u2, rfl, hu2, hb2⟩; obtain ⟨a2, c2, rfl⟩ := hu2.rd.shape; rw [putF_len]; have HB' := Lib.hid (bl_bl (by repeat (first | exact HB.out | apply bl_drew | apply bl_drewN | apply bl_alloc)) hb2); have HS' := Lib.hid (SA.below (by repeat (first | exact HS.out | apply SA.drew | apply SA.drewN | apply SA.alloc)) hb2); clear hb2 hu2; have HB := HB'; have HS := HS'; clear HB' HS'))
                        refine hK.out _ _ ?_ (fun hHeld => ?_)
                        · (try dsimp only); (first | (refine SA.cells ?_; repeat (first | exact HS.out | apply SA.drew | apply SA.drewN | apply SA.alloc)))
                        clear hK K 
                        try simp only [Act.put, List.setIfInBounds_toArray, List.set_cons_zero, List.set_cons_succ]
                        refine wpAnyH_take (i := 18) (v := ?_) (by simp only [List.getElem?_toArray, List.getElem?_cons_succ, List.getElem?_cons_zero]; first | done | rfl) (by kernel_rfl) (by kernel_rfl) (by kernel_rfl) (fun _ _ _ h => h) (Or.inl ⟨by rfl, ?hy⟩) (by assumption) ?_
                        case hy => (intro w hSw; (try dsimp only at hSw); go_simp; all_goals with_reducible rfl)
                        try simp only [Act.put, List.setIfInBounds_toArray, List.set_cons_zero, List.set_cons_succ]
                        refine wpAnyH_take (i := 19) (v := ?_) (by simp only [List.getElem?_toArray, List.getElem?_cons_succ, List.getElem?_cons_zero]; first | done | rfl) (by kernel_rfl) (by kernel_rfl) (by kernel_rfl) (fun _ _ _ h => h) (Or.inl ⟨by rfl, ?hy⟩) (by assumption) ?_
                        case hy => (intro w hSw; (try dsimp only at hSw); go_simp; all_goals with_reducible rfl)
                        try simp only [Act.put, List.setIfInBounds_toArray, List.set_cons_zero, List.set_cons_succ]
                        refine wpAnyH_take (i := 20) (v := ?_) (by simp only [List.getElem?_toArray, List.getElem?_cons_succ, List.getElem?_cons_zero]; first | done | rfl) (by kernel_rfl) (by kernel_rfl) (by kernel_rfl) (fun _ _ _ h => h) (Or.inl ⟨by rfl, ?hy⟩) (by assumption) ?_
                        case hy => (intro w hSw; (try dsimp only at hSw); go_simp; all_goals with_reducible rfl)
                        try simp only [Act.put, List.setIfInBounds_toArray, List.set_cons_zero, List.set_cons_succ]
                        refine wpAnyH_ready (rs := [21]) (by kernel_rfl) (by simp) ?_
                        refine AllReadyH.cons (by simp only [List.getElem?_toArray, List.getElem?_cons_succ, List.getElem?_cons_zero]; first | done | rfl) (fun K hK => ?_) ?_
                        · go_simp
                          (first | (go_at_call 12; refine (public_any _ _ (by omega) (by omega)).mono ?_; rintro e w2 ⟨rfl, n2, rfl⟩; (try rw [pub0]); (try rw [pub1])) | (go_at_call 13; refine (check_any _ _ _ _ _ _ (by omega) (by omega) (by omega) (by omega) (by omega) (by omega) (by first | exact rd_marked _ 109 _ | exact rd_marked _ 110 _ | exact rd_drewN (rd_marked _ 109 _) _ | exact rd_drewN (rd_marked _ 110 _) _) (by decide)).mono ?_; rintro e w2 ⟨rfl, hb2⟩; (first | rw [HM.out] | rw [HN.out] | rw [unit0]); have HB' := Lib.hid (bl_bl (by repeat (first | exact HB.out | apply bl_drew | apply bl_drewN | apply bl_alloc)) hb2); have HS' := Lib.hid (SA.below (by repeat (first | exact HS.out | apply SA.drew | apply SA.drewN | apply SA.alloc)) hb2); clear hb2; have HB := HB'; have HS := HS'; clear HB' HS') | (go_at_call 14; refine (put_any _ _ _ (by omega) (by omega) (by omega) (by omega)).mono ?_; rintro e w2 ⟨u2, rfl, hu2, hb2⟩; obtain ⟨a2, c2, rfl⟩ := hu2.rd.shape; rw [putF_len]; have HB' := Lib.hid (bl_bl (by repeat (first | exact HB.out | apply bl_drew | apply bl_drewN | apply bl_alloc)) hb2); have HS' := Lib.hid (SA.below (by repeat (first | exact HS.out | apply SA.drew | apply SA.drewN | apply SA.alloc)) hb2); clear hb2 hu2; have HB := HB'; have HS := HS'; clear HB' HS'))
                          refine hK.out _ _ ?_ (fun hHeld => ?_)
                          · (try dsimp only); (first | (refine SA.cells ?_; repeat (first | exact HS.out | apply SA.drew | apply SA.drewN | apply SA.alloc)))
                          clear hK K 
                          try simp only [Act.put, List.setIfInBounds_toArray, List.set_cons_zero, List.set_cons_succ]
                          refine wpAnyH_take (i := 22) (v := ?_) (by simp only [List.getElem?_toArray, List.getElem?_cons_succ, List.getElem?_cons_zero]; first | done | rfl) (by kernel_rfl) (by kernel_rfl) (by kernel_rfl) (fun _ _ _ h => h) (Or.inl ⟨by rfl, ?hy⟩) (by assumption) ?_
                          case hy => (intro w hSw; (try dsimp only at hSw); go_simp; all_goals with_reducible rfl)
                          try simp only [Act.put, List.setIfInBounds_toArray, List.set_cons_zero, List.set_cons_succ]
                          refine wpAnyH_take (i := 23) (v := ?_) (by simp only [List.getElem?_toArray, List.getElem?_cons_succ, List.getElem?_cons_zero]; first | done | rfl) (by kernel_rfl) (by kernel_rfl) (by kernel_rfl) (fun _ _ _ h => h) (Or.inl ⟨by rfl, ?hy⟩) (by assumption) ?_
                          case hy => (intro w hSw; (try dsimp only at hSw); go_simp; all_goals with_reducible rfl)
                          try simp only [Act.put, List.setIfInBounds_toArray, List.set_cons_zero, List.set_cons_succ]
                          refine wpAnyH_take (i := 24) (v := ?_) (by simp only [List.getElem?_toArray, List.getElem?_cons_succ, List.getElem?_cons_zero]; first | done | rfl) (by kernel_rfl) (by kernel_rfl) (by kernel_rfl) (fun _ _ _ h => h) (Or.inl ⟨by rfl, ?hy⟩) (by assumption) ?_
                          case hy => (intro w hSw; (try dsimp only at hSw); go_simp; all_goals with_reducible rfl)
                          try simp only [Act.put, List.setIfInBounds_toArray, List.set_cons_zero, List.set_cons_succ]
                          refine wpAnyH_ready (rs := [25]) (by kernel_rfl) (by simp) ?_
                          refine AllReadyH.cons (by simp only [List.getElem?_toArray, List.getElem?_cons_succ, List.getElem?_cons_zero]; first | done | rfl) (fun K hK => ?_) ?_
                          · go_simp
                            (first | (go_at_call 12; refine (public_any _ _ (by omega) (by omega)).mono ?_; rintro e w2 ⟨rfl, n2, rfl⟩; (try rw [pub0]); (try rw [pub1])) | (go_at_call 13; refine (check_any _ _ _ _ _ _ (by omega) (by omega) (by omega) (by omega) (by omega) (by omega) (by first | exact rd_marked _ 109 _ | exact rd_marked _ 110 _ | exact rd_drewN (rd_marked _ 109 _) _ | exact rd_drewN (rd_marked _ 110 _) _) (by decide)).mono ?_; rintro e w2 ⟨rfl, hb2⟩; (first | rw [HM.out] | rw [HN.out] | rw [unit0]); have HB' := Lib.hid (bl_bl (by repeat (first | exact HB.out | apply bl_drew | apply bl_drewN | apply bl_alloc)) hb2); have HS' := Lib.hid (SA.below (by repeat (first | exact HS.out | apply SA.drew | apply SA.drewN | apply SA.alloc)) hb2); clear hb2; have HB := HB'; have HS := HS'; clear HB' HS') | (go_at_call 14; refine (put_any _ _ _ (by omega) (by omega) (by omega) (by omega)).mono ?_; rintro e w2 ⟨u2, rfl, hu2, hb2⟩; obtain ⟨a2, c2, rfl⟩ := hu2.rd.shape; rw [putF_len]; have HB' := Lib.hid (bl_bl (by repeat (first | exact HB.out | apply bl_drew | apply bl_drewN | apply bl_alloc)) hb2); have HS' := Lib.hid (SA.below (by repeat (first | exact HS.out | apply SA.drew | apply SA.drewN | apply SA.alloc)) hb2); clear hb2 hu2; have HB := HB'; have HS := HS'; clear HB' HS'))
                            refine hK.out _ _ ?_ (fun hHeld => ?_)
                            · (try dsimp only); (first | (refine SA.cells ?_; repeat (first | exact HS.out | apply SA.drew | apply SA.drewN | apply SA.alloc)))
                            clear hK K 
                            try simp only [Act.put, List.setIfInBounds_toArray, List.set_cons_zero, List.set_cons_succ]
                            refine wpAnyH_take (i := 26) (v := ?_) (by simp only [List.getElem?_toArray, List.getElem?_cons_succ, List.getElem?_cons_zero]; first | done | rfl) (by kernel_rfl) (by kernel_rfl) (by kernel_rfl) (fun _ _ _ h => h) (Or.inl ⟨by rfl, ?hy⟩) (by assumption) ?_
                            case hy => (intro w hSw; (try dsimp only at hSw); go_simp; all_goals with_reducible rfl)
                            try simp only [Act.put, List.setIfInBounds_toArray, List.set_cons_zero, List.set_cons_succ]
                            refine wpAnyH_take (i := 27) (v := ?_) (by simp only [List.getElem?_toArray, List.getElem?_cons_succ, List.getElem?_cons_zero]; first | done | rfl) (by kernel_rfl) (by kernel_rfl) (by kernel_rfl) (fun _ _ _ h => h) (Or.inl ⟨by rfl, ?hy⟩) (by assumption) ?_
                            case hy => (intro w hSw; (try dsimp only at hSw); go_simp; all_goals with_reducible rfl)
                            try simp only [Act.put, List.setIfInBounds_toArray, List.set_cons_zero, List.set_cons_succ]
                            refine wpAnyH_take (i := 28) (v := ?_) (by simp only [List.getElem?_toArray, List.getElem?_cons_succ, List.getElem?_cons_zero]; first | done | rfl) (by kernel_rfl) (by kernel_rfl) (by kernel_rfl) (fun _ _ _ h => h) (Or.inl ⟨by rfl, ?hy⟩) (by assumption) ?_
                            case hy => (intro w hSw; (try dsimp only at hSw); go_simp; all_goals with_reducible rfl)
                            try simp only [Act.put, List.setIfInBounds_toArray, List.set_cons_zero, List.set_cons_succ]
                            refine wpAnyH_take (i := 29) (v := ?_) (by simp only [List.getElem?_toArray, List.getElem?_cons_succ, List.getElem?_cons_zero]; first | done | rfl) (by kernel_rfl) (by kernel_rfl) (by kernel_rfl) (fun _ _ _ h => h) (Or.inl ⟨by rfl, ?hy⟩) (by assumption) ?_
                            case hy => (intro w hSw; (try dsimp only at hSw); go_simp; all_goals with_reducible rfl)
                            try simp only [Act.put, List.setIfInBounds_toArray, List.set_cons_zero, List.set_cons_succ]
                            refine wpAnyH_ready (rs := [30]) (by kernel_rfl) (by simp) ?_
                            refine AllReadyH.cons (by simp only [List.getElem?_toArray, List.getElem?_cons_succ, List.getElem?_cons_zero]; first | done | rfl) (fun K hK => ?_) ?_
                            · go_simp
                              (first | (go_at_call 12; refine (public_any _ _ (by omega) (by omega)).mono ?_; rintro e w2 ⟨rfl, n2, rfl⟩; (try rw [pub0]); (try rw [pub1])) | (go_at_call 13; refine (check_any _ _ _ _ _ _ (by omega) (by omega) (by omega) (by omega) (by omega) (by omega) (by first | exact rd_marked _ 109 _ | exact rd_marked _ 110 _ | exact rd_drewN (rd_marked _ 109 _) _ | exact rd_drewN (rd_marked _ 110 _) _) (by decide)).mono ?_; rintro e w2 ⟨rfl, hb2⟩; (first | rw [HM.out] | rw [HN.out] | rw [unit0]); have HB' := Lib.hid (bl_bl (by repeat (first | exact HB.out | apply bl_drew | apply bl_drewN | apply bl_alloc)) hb2); have HS' := Lib.hid (SA.below (by repeat (first | exact HS.out | apply SA.drew | apply SA.drewN | apply SA.alloc)) hb2); clear hb2; have HB := HB'; have HS := HS'; clear HB' HS') | (go_at_call 14; refine (put_any _ _ _ (by omega) (by omega) (by omega) (by omega)).mono ?_; rintro e w2 ⟨u2, rfl, hu2, hb2⟩; obtain ⟨a2, c2, rfl⟩ := hu2.rd.shape; rw [putF_len]; have HB' := Lib.hid (bl_bl (by repeat (first | exact HB.out | apply bl_drew | apply bl_drewN | apply bl_alloc)) hb2); have HS' := Lib.hid (SA.below (by repeat (first | exact HS.out | apply SA.drew | apply SA.drewN | apply SA.alloc)) hb2); clear hb2 hu2; have HB := HB'; have HS := HS'; clear HB' HS'))
                              refine hK.out _ _ ?_ (fun hHeld => ?_)
                              · (try dsimp only); (first | (refine SA.cells ?_; repeat (first | exact HS.out | apply SA.drew | apply SA.drewN | apply SA.alloc)))
                              clear hK K 
                              try simp only [Act.put, List.setIfInBounds_toArray, List.set_cons_zero, List.set_cons_succ]
                              refine wpAnyH_take (i := 31) (v := ?_) (by simp only [List.getElem?_toArray, List.getElem?_cons_succ, List.getElem?_cons_zero]; first | done | rfl) (by kernel_rfl) (by kernel_rfl) (by kernel_rfl) (fun _ _ _ h => h) (Or.inl ⟨by rfl, ?hy⟩) (by assumption) ?_
                              case hy => (intro w hSw; (try dsimp only at hSw); go_simp; all_goals with_reducible rfl)
                              try simp only [Act.put, List.setIfInBounds_toArray, List.set_cons_zero, List.set_cons_succ]
                              refine wpAnyH_take (i := 32) (v := ?_) (by simp only [List.getElem?_toArray, List.getElem?_cons_succ, List.getElem?_cons_zero]; first | done | rfl) (by kernel_rfl) (by kernel_rfl) (by kernel_rfl) (fun _ _ _ h => h) (Or.inl ⟨by rfl, ?hy⟩) (by assumption) ?_
                              case hy => (intro w hSw; (try dsimp only at hSw); go_simp; all_goals with_reducible rfl)
                              try simp only [Act.put, List.setIfInBounds_toArray, List.set_cons_zero, List.set_cons_succ]
                              refine wpAnyH_take (i := 33) (v := ?_) (by simp only [List.getElem?_toArray, List.getElem?_cons_succ, List.getElem?_cons_zero]; first | done | rfl) (by kernel_rfl) (by kernel_rfl) (by kernel_rfl) (fun _ _ _ h => h) (Or.inl ⟨by rfl, ?hy⟩) (by assumption) ?_
                              case hy => (intro w hSw; (try dsimp only at hSw); go_simp; all_goals with_reducible rfl)
                              try simp only [Act.put, List.setIfInBounds_toArray, List.set_cons_zero, List.set_cons_succ]
                              refine wpAnyH_take (i := 34) (v := ?_) (by simp only [List.getElem?_toArray, List.getElem?_cons_succ, List.getElem?_cons_zero]; first | done | rfl) (by kernel_rfl) (by kernel_rfl) (by kernel_rfl) (fun _ _ _ h => h) (Or.inl ⟨by rfl, ?hy⟩) (by assumption) ?_
                              case hy => (intro w hSw; (try dsimp only at hSw); go_simp; all_goals with_reducible rfl)
                              try simp only [Act.put, List.setIfInBounds_toArray, List.set_cons_zero, List.set_cons_succ]
                              refine wpAnyH_done (by kernel_rfl) ?_ _
                              (refine NoPanic.normal ?_; go_wp2_with fail; go_ret; exact ⟨rfl, HB.out⟩)
                            exact AllReadyH.nil
                          exact AllReadyH.nil
                        exact AllReadyH.nil
                      exact AllReadyH.nil
                    exact AllReadyH.nil
                  exact AllReadyH.nil
                exact AllReadyH.nil
              exact AllReadyH.nil
            refine AllReadyH.cons (by simp only [List.getElem?_toArray, List.getElem?_cons_succ, List.getElem?_cons_zero]; first | done | rfl) (fun K hK => ?_) ?_
            · go_simp
              refine hK.out _ _ ?_ (fun hHeld => ?_)
              · (try dsimp only); (first | (refine SA.cells ?_; repeat (first | exact HS.out | apply SA.drew | apply SA.drewN | apply SA.alloc)))
              clear hK K 
              try simp only [Act.put, List.setIfInBounds_toArray, List.set_cons_zero, List.set_cons_succ]
              refine wpAnyH_ready (rs := [6]) (by kernel_rfl) (by simp) ?_
              refine AllReadyH.cons (by simp only [List.getElem?_toArray, List.getElem?_cons_succ, List.getElem?_cons_zero]; first | done | rfl) (fun K hK => ?_) ?_
              · go_simp
                (first | (go_at_call 12; refine (public_any _ _ (by omega) (by omega)).mono ?_; rintro e w2 ⟨rfl, n2, rfl⟩; (try rw [pub0]); (try rw [pub1])) | (go_at_call 13; refine (check_any _ _ _ _ _ _ (by omega) (by omega) (by omega) (by omega) (by omega) (by omega) (by first | exact rd_marked _ 109 _ | exact rd_marked _ 110 _ | exact rd_drewN (rd_marked _ 109 _) _ | exact rd_drewN (rd_marked _ 110 _) _) (by decide)).mono ?_; rintro e w2 ⟨rfl, hb2⟩; (first | rw [HM.out] | rw [HN.out] | rw [unit0]); have HB' := Lib.hid (bl_bl (by repeat (first | exact HB.out | apply bl_drew | apply bl_drewN | apply bl_alloc)) hb2); have HS' := Lib.hid (SA.below (by repeat (first | exact HS.out | apply SA.drew | apply SA.drewN | apply SA.alloc)) hb2); clear hb2; have HB := HB'; have HS := HS'; clear HB' HS') | (go_at_call 14; refine (put_any _ _ _ (by omega) (by omega) (by omega) (by omega)).mono ?_; rintro e w2 ⟨u2, rfl, hu2, hb2⟩; obtain ⟨a2, c2, rfl⟩ := hu2.rd.shape; rw [putF_len]; have HB' := Lib.hid (bl_bl (by repeat (first | exact HB.out | apply bl_drew | apply bl_drewN | apply bl_alloc)) hb2); have HS' := Lib.hid (SA.below (by repeat (first | exact HS.out | apply SA.drew | apply SA.drewN | apply SA.alloc)) hb2); clear hb2 hu2; have HB := HB'; have HS := HS'; clear HB' HS'))
                refine hK.out _ _ ?_ (fun hHeld => ?_)
                · (try dsimp only); (first | (refine SA.cells ?_; repeat (first | exact HS.out | apply SA.drew | apply SA.drewN | apply SA.alloc)))
                clear hK K 
                try simp only [Act.put, List.setIfInBounds_toArray, List.set_cons_zero, List.set_cons_succ]
                refine wpAnyH_ready (rs := [10]) (by kernel_rfl) (by simp) ?_
                refine AllReadyH.cons (by simp only [List.getElem?_toArray, List.getElem?_cons_succ, List.getElem?_cons_zero]; first | done | rfl) (fun K hK => ?_) ?_
                · go_simp
                  (first | (go_at_call 12; refine (public_any _ _ (by omega) (by omega)).mono ?_; rintro e w2 ⟨rfl, n2, rfl⟩; (try rw [pub0]); (try rw [pub1])) | (go_at_call 13; refine (check_any _ _ _ _ _ _ (by omega) (by omega) (by omega) (by omega) (by omega) (by omega) (by first | exact rd_marked _ 109 _ | exact rd_marked _ 110 _ | exact rd_drewN (rd_marked _ 109 _) _ | exact rd_drewN (rd_marked _ 110 _) _) (by decide)).mono ?_; rintro e w2 ⟨rfl, hb2⟩; (first | rw [HM.out] | rw [HN.out] | rw [unit0]); have HB' := Lib.hid (bl_bl (by repeat (first | exact HB.out | apply bl_drew | apply bl_drewN | apply bl_alloc)) hb2); have HS' := Lib.hid (SA.below (by repeat (first | exact HS.out | apply SA.drew | apply SA.drewN | apply SA.alloc)) hb2); clear hb2; have HB := HB'; have HS := HS'; clear HB' HS') | (go_at_call 14; refine (put_any _ _ _ (by omega) (by omega) (by omega) (by omega)).mono ?_; rintro e w2 ⟨u2, rfl, hu2, hb2⟩; obtain ⟨a2, c2, rfl⟩ := hu2.rd.shape; rw [putF_len]; have HB' := Lib.hid (bl_bl (by repeat (first | exact HB.out | apply bl_drew | apply bl_drewN | apply bl_alloc)) hb2); have HS' := Lib.hid (SA.below (by repeat (first | exact HS.out | apply SA.drew | apply SA.drewN | apply SA.alloc)) hb2); clear hb2 hu2; have HB := HB'; have HS := HS'; clear HB' HS'))
                  refine hK.out _ _ ?_ (fun hHeld => ?_)
                  · (try dsimp only); (first | (refine SA.cells ?_; repeat (first | exact HS.out | apply SA.drew | apply SA.drewN | apply SA.alloc)))
                  clear hK K 
                  try simp only [Act.put, List.setIfInBounds_toArray, List.set_cons_zero, List.set_cons_succ]
                  refine wpAnyH_take (i := 11) (v := ?_) (by simp only [List.getElem?_toArray, List.getElem?_cons_succ, List.getElem?_cons_zero]; first | done | rfl) (by kernel_rfl) (by kernel_rfl) (by kernel_rfl) (fun _ _ _ h => h) (Or.inl ⟨by rfl, ?hy⟩) (by assumption) ?_
                  case hy => (intro w hSw; (try dsimp only at hSw); go_simp; all_goals with_reducible rfl)
                  try simp only [Act.put, List.setIfInBounds_toArray, List.set_cons_zero, List.set_cons_succ]
                  refine wpAnyH_take (i := 12) (v := ?_) (by simp only [List.getElem?_toArray, List.getElem?_cons_succ, List.getElem?_cons_zero]; first | done | rfl) (by kernel_rfl) (by kernel_rfl) (by kernel_rfl) (fun _ _ _ h => h) (Or.inl ⟨by rfl, ?hy⟩) (by assumption) ?_
                  case hy => (intro w hSw; (try dsimp only at hSw); go_simp; all_goals with_reducible rfl)
                  try simp only [Act.put, List.setIfInBounds_toArray, List.set_cons_zero, List.set_cons_succ]
                  refine wpAnyH_take (i := 13) (v := ?_) (by simp only [List.getElem?_toArray, List.getElem?_cons_succ, List.getElem?_cons_zero]; first | done | rfl) (by kernel_rfl) (by kernel_rfl) (by kernel_rfl) (fun _ _ _ h => h) (Or.inl ⟨by rfl, ?hy⟩) (by assumption) ?_
                  case hy => (intro w hSw; (try dsimp only at hSw); go_simp; all_goals with_reducible rfl)
                  try simp only [Act.put, List.setIfInBounds_toArray, List.set_cons_zero, List.set_cons_succ]
                  refine wpAnyH_take (i := 16) (v := ?_) (by simp only [List.getElem?_toArray, List.getElem?_cons_succ, List.getElem?_cons_zero]; first | done | rfl) (by kernel_rfl) (by kernel_rfl) (by kernel_rfl) (fun _ _ _ h => h) (Or.inl ⟨by rfl, ?hy⟩) (by assumption) ?_
                  case hy => (intro w hSw; (try dsimp only at hSw); go_simp; all_goals with_reducible rfl)
                  try simp only [Act.put, List.setIfInBounds_toArray, List.set_cons_zero, List.set_cons_succ]
                  refine wpAnyH_ready (rs := [14]) (by kernel_rfl) (by simp) ?_
                  refine AllReadyH.cons (by simp only [List.getElem?_toArray, List.getElem?_cons_succ, List.getElem?_cons_zero]; first | done | rfl) (fun K hK => ?_) ?_
                  · go_simp
                    refine hK.out _ _ ?_ (fun hHeld => ?_)
                    · (try dsimp only); (first | (refine SA.cells ?_; repeat (first | exact HS.out | apply SA.drew | apply SA.drewN | apply SA.alloc)))
                    clear hK K 
                    try simp only [Act.put, List.setIfInBounds_toArray, List.set_cons_zero, List.set_cons_succ]
                    refine wpAnyH_ready (rs := [15]) (by kernel_rfl) (by simp) ?_
                    refine AllReadyH.cons (by simp only [List.getElem?_toArray, List.getElem?_cons_succ, List.getElem?_cons_zero]; first | done | rfl) (fun K hK => ?_) ?_
                    · go_simp
                      refine hK.out _ _ ?_ (fun hHeld => ?_)
                      · (try dsimp only); (first | (refine SA.cells ?_; repeat (first | exact HS.out | apply SA.drew | apply SA.drewN | apply SA.alloc)))
                      clear hK K 
                      try simp only [Act.put, List.setIfInBounds_toArray, List.set_cons_zero, List.set_cons_succ]
                      refine wpAnyH_ready (rs := [17]) (by kernel_rfl) (by simp) ?_
                      refine AllReadyH.cons (by simp only [List.getElem?_toArray, List.getElem?_cons_succ, List.getElem?_cons_zero]; first | done | rfl) (fun K hK => ?_) ?_
                      · go_simp
                        (first | (go_at_call 12; refine (public_any _ _ (by omega) (by omega)).mono ?_; rintro e w2 ⟨rfl, n2, rfl⟩; (try rw [pub0]); (try rw [pub1])) | (go_at_call 13; refine (check_any _ _ _ _ _ _ (by omega) (by omega) (by omega) (by omega) (by omega) (by omega) (by first | exact rd_marked _ 109 _ | exact rd_marked _ 110 _ | exact rd_drewN (rd_marked _ 109 _) _ | exact rd_drewN (rd_marked _ 110 _) _) (by decide)).mono ?_; rintro e w2 ⟨rfl, hb2⟩; (first | rw [HM.out] | rw [HN.out] | rw [unit0]); have HB' := Lib.hid (bl_bl (by repeat (first | exact HB.out | apply bl_drew | apply bl_drewN | apply bl_alloc)) hb2); have HS' := Lib.hid (SA.below (by repeat (first | exact HS.out | apply SA.drew | apply SA.drewN | apply SA.alloc)) hb2); clear hb2; have HB := HB'; have HS := HS'; clear HB' HS') | (go_at_call 14; refine (put_any _ _ _ (by omega) (by omega) (by omega) (by omega)).mono ?_; rintro e w2 ⟨u2, rfl, hu2, hb2⟩; obtain ⟨a2, c2, rfl⟩ := hu2.rd.shape; rw [putF_len]; have HB' := Lib.hid (bl_bl (by repeat (first | exact HB.out | apply bl_drew | apply bl_drewN | apply bl_alloc)) hb2); have HS' := Lib.hid (SA.below (by repeat (first | exact HS.out | apply SA.drew | apply SA.drewN | apply SA.alloc)) hb2); clear hb2 hu2; have HB := HB'; have HS := HS'; clear HB' HS'))
                        refine hK.out _ _ ?_ (fun hHeld => ?_)
                        · (try dsimp only); (first | (refine SA.cells ?_; repeat (first | exact HS.out | apply SA.drew | apply SA.drewN | apply SA.alloc)))
                        clear hK K 
                        try simp only [Act.put, List.setIfInBounds_toArray, List.set_cons_zero, List.set_cons_succ]
                        refine wpAnyH_take (i := 18) (v := ?_) (by simp only [List.getElem?_toArray, List.getElem?_cons_succ, List.getElem?_cons_zero]; first | done | rfl) (by kernel_rfl) (by kernel_rfl) (by kernel_rfl) (fun _ _ _ h => h) (Or.inl ⟨by rfl, ?hy⟩) (by assumption) ?_
                        case hy => (intro w hSw; (try dsimp only at hSw); go_simp; all_goals with_reducible rfl)
                        try simp only [Act.put, List.setIfInBounds_toArray, List.set_cons_zero, List.set_cons_succ]
                        refine wpAnyH_take (i := 19) (v := ?_) (by simp only [List.getElem?_toArray, List.getElem?_cons_succ, List.getElem?_cons_zero]; first | done | rfl) (by kernel_rfl) (by kernel_rfl) (by kernel_rfl) (fun _ _ _ h => h) (Or.inl ⟨by rfl, ?hy⟩) (by assumption) ?_
                        case hy => (intro w hSw; (try dsimp only at hSw); go_simp; all_goals with_reducible rfl)
                        try simp only [Act.put, List.setIfInBounds_toArray, List.set_cons_zero, List.set_cons_succ]
                        refine wpAnyH_take (i := 20) (v := ?_) (by simp only [List.getElem?_toArray, List.getElem?_cons_succ, List.getElem?_cons_zero]; first | done | rfl) (by kernel_rfl) (by kernel_rfl) (by kernel_rfl) (fun _ _ _ h => h) (Or.inl ⟨by rfl, ?hy⟩) (by assumption) ?_
                        case hy => (intro w hSw; (try dsimp only at hSw); go_simp; all_goals with_reducible rfl)
                        try simp only [Act.put, List.setIfInBounds_toArray, List.set_cons_zero, List.set_cons_succ]
                        refine wpAnyH_ready (rs := [21]) (by kernel_rfl) (by simp) ?_
                        refine AllReadyH.cons (by simp only [List.getElem?_toArray, List.getElem?_cons_succ, List.getElem?_cons_zero]; first | done | rfl) (fun K hK => ?_) ?_
                        · go_simp
                          (first | (go_at_call 12; refine (public_any _ _ (by omega) (by omega)).mono ?_; rintro e w2 ⟨rfl, n2, rfl⟩; (try rw [pub0]); (try rw [pub1])) | (go_at_call 13; refine (check_any _ _ _ _ _ _ (by omega) (by omega) (by omega) (by omega) (by omega) (by omega) (by first | exact rd_marked _ 109 _ | exact rd_marked _ 110 _ | exact rd_drewN (rd_marked _ 109 _) _ | exact rd_drewN (rd_marked _ 110 _) _) (by decide)).mono ?_; rintro e w2 ⟨rfl, hb2⟩; (first | rw [HM.out] | rw [HN.out] | rw [unit0]); have HB' := Lib.hid (bl_bl (by repeat (first | exact HB.out | apply bl_drew | apply bl_drewN | apply bl_alloc)) hb2); have HS' := Lib.hid (SA.below (by repeat (first | exact HS.out | apply SA.drew | apply SA.drewN | apply SA.alloc)) hb2); clear hb2; have HB := HB'; have HS := HS'; clear HB' HS') | (go_at_call 14; refine (put_any _ _ _ (by omega) (by omega) (by omega) (by omega)).mono ?_; rintro e w2 ⟨u2, rfl, hu2, hb2⟩; obtain ⟨a2, c2, rfl⟩ := hu2.rd.shape; rw [putF_len]; have HB' := Lib.hid (bl_bl (by repeat (first | exact HB.out | apply bl_drew | apply bl_drewN | apply bl_alloc)) hb2); have HS' := Lib.hid (SA.below (by repeat (first | exact HS.out | apply SA.drew | apply SA.drewN | apply SA.alloc)) hb2); clear hb2 hu2; have HB := HB'; have HS := HS'; clear HB' HS'))
                          refine hK.out _ _ ?_ (fun hHeld => ?_)
                          · (try dsimp only); (first | (refine SA.cells ?_; repeat (first | exact HS.out | apply SA.drew | apply SA.drewN | apply SA.alloc)))
                          clear hK K 
                          try simp only [Act.put, List.setIfInBounds_toArray, List.set_cons_zero, List.set_cons_succ]
                          refine wpAnyH_take (i := 22) (v := ?_) (by simp only [List.getElem?_toArray, List.getElem?_cons_succ, List.getElem?_cons_zero]; first | done | rfl) (by kernel_rfl) (by kernel_rfl) (by kernel_rfl) (fun _ _ _ h => h) (Or.inl ⟨by rfl, ?hy⟩) (by assumption) ?_
                          case hy => (intro w hSw; (try dsimp only at hSw); go_simp; all_goals with_reducible rfl)
                          try simp only [Act.put, List.setIfInBounds_toArray, List.set_cons_zero, List.set_cons_succ]
                          refine wpAnyH_take (i := 23) (v := ?_) (by simp only [List.getElem?_toArray, List.getElem?_cons_succ, List.getElem?_cons_zero]; first | done | rfl) (by kernel_rfl) (by kernel_rfl) (by kernel_rfl) (fun _ _ _ h => h) (Or.inl ⟨by rfl, ?hy⟩) (by assumption) ?_
                          case hy => (intro w hSw; (try dsimp only at hSw); go_simp; all_goals with_reducible rfl)
                          try simp only [Act.put, List.setIfInBounds_toArray, List.set_cons_zero, List.set_cons_succ]
                          refine wpAnyH_take (i := 24) (v := ?_) (by simp only [List.getElem?_toArray, List.getElem?_cons_succ, List.getElem?_cons_zero]; first | done | rfl) (by kernel_rfl) (by kernel_rfl) (by kernel_rfl) (fun _ _ _ h => h) (Or.inl ⟨by rfl, ?hy⟩) (by assumption) ?_
                          case hy => (intro w hSw; (try dsimp only at hSw); go_simp; all_goals with_reducible rfl)
                          try simp only [Act.put, List.setIfInBounds_toArray, List.set_cons_zero, List.set_cons_succ]
                          refine wpAnyH_ready (rs := [25]) (by kernel_rfl) (by simp) ?_
                          refine AllReadyH.cons (by simp only [List.getElem?_toArray, List.getElem?_cons_succ, List.getElem?_cons_zero]; first | done | rfl) (fun K hK => ?_) ?_
                          · go_simp
                            (first | (go_at_call 12; refine (public_any _ _ (by omega) (by omega)).mono ?_; rintro e w2 ⟨rfl, n2, rfl⟩; (try rw [pub0]); (try rw [pub1])) | (go_at_call 13; refine (check_any _ _ _ _ _ _ (by omega) (by omega) (by omega) (by omega) (by omega) (by omega) (by first | exact rd_marked _ 109 _ | exact rd_marked _ 110 _ | exact rd_drewN (rd_marked _ 109 _) _ | exact rd_drewN (rd_marked _ 110 _) _) (by decide)).mono ?_; rintro e w2 ⟨rfl, hb2⟩; (first | rw [HM.out] | rw [HN.out] | rw [unit0]); have HB' := Lib.hid (bl_bl (by repeat (first | exact HB.out | apply bl_drew | apply bl_drewN | apply bl_alloc)) hb2); have HS' := Lib.hid (SA.below (by repeat (first | exact HS.out | apply SA.drew | apply SA.drewN | apply SA.alloc)) hb2); clear hb2; have HB := HB'; have HS := HS'; clear HB' HS') | (go_at_call 14; refine (put_any _ _ _ (by omega) (by omega) (by omega) (by omega)).mono ?_; rintro e w2 ⟨u2, rfl, hu2, hb2⟩; obtain ⟨a2, c2, rfl⟩ := hu2.rd.shape; rw [putF_len]; have HB' := Lib.hid (bl_bl (by repeat (first | exact HB.out | apply bl_drew | apply bl_drewN | apply bl_alloc)) hb2); have HS' := Lib.hid (SA.below (by repeat (first | exact HS.out | apply SA.drew | apply SA.drewN | apply SA.alloc)) hb2); clear hb2 hu2; have HB := HB'; have HS := HS'; clear HB' HS'))
                            refine hK.out _ _ ?_ (fun hHeld => ?_)
                            · (try dsimp only); (first | (refine SA.cells ?_; repeat (first | exact HS.out | apply SA.drew | apply SA.drewN | apply SA.alloc)))
                            clear hK K 
                            try simp only [Act.put, List.setIfInBounds_toArray, List.set_cons_zero, List.set_cons_succ]
                            refine wpAnyH_take (i := 26) (v := ?_) (by simp only [List.getElem?_toArray, List.getElem?_cons_succ, List.getElem?_cons_zero]; first | done | rfl) (by kernel_rfl) (by kernel_rfl) (by kernel_rfl) (fun _ _ _ h => h) (Or.inl ⟨by rfl, ?hy⟩) (by assumption) ?_
                            case hy => (intro w hSw; (try dsimp only at hSw); go_simp; all_goals with_reducible rfl)
                            try simp only [Act.put, List.setIfInBounds_toArray, List.set_cons_zero, List.set_cons_succ]
                            refine wpAnyH_take (i := 27) (v := ?_) (by simp only [List.getElem?_toArray, List.getElem?_cons_succ, List.getElem?_cons_zero]; first | done | rfl) (by kernel_rfl) (by kernel_rfl) (by kernel_rfl) (fun _ _ _ h => h) (Or.inl ⟨by rfl, ?hy⟩) (by assumption) ?_
                            case hy => (intro w hSw; (try dsimp only at hSw); go_simp; all_goals with_reducible rfl)
                            try simp only [Act.put, List.setIfInBounds_toArray, List.set_cons_zero, List.set_cons_succ]
                            refine wpAnyH_take (i := 28) (v := ?_) (by simp only [List.getElem?_toArray, List.getElem?_cons_succ, List.getElem?_cons_zero]; first | done | rfl) (by kernel_rfl) (by kernel_rfl) (by kernel_rfl) (fun _ _ _ h => h) (Or.inl ⟨by rfl, ?hy⟩) (by assumption) ?_
                            case hy => (intro w hSw; (try dsimp only at hSw); go_simp; all_goals with_reducible rfl)
                            try simp only [Act.put, List.setIfInBounds_toArray, List.set_cons_zero, List.set_cons_succ]
                            refine wpAnyH_take (i := 29) (v := ?_) (by simp only [List.getElem?_toArray, List.getElem?_cons_succ, List.getElem?_cons_zero]; first | done | rfl) (by kernel_rfl) (by kernel_rfl) (by kernel_rfl) (fun _ _ _ h => h) (Or.inl ⟨by rfl, ?hy⟩) (by assumption) ?_
                            case hy => (intro w hSw; (try dsimp only at hSw); go_simp; all_goals with_reducible rfl)
                            try simp only [Act.put, List.setIfInBounds_toArray, List.set_cons_zero, List.set_cons_succ]
                            refine wpAnyH_ready (rs := [30]) (by kernel_rfl) (by simp) ?_
                            refine AllReadyH.cons (by simp only [List.getElem?_toArray, List.getElem?_cons_succ, List.getElem?_cons_zero]; first | done | rfl) (fun K hK => ?_) ?_
                            · go_simp
                              (first | (go_at_call 12; refine (public_any _ _ (by omega) (by omega)).mono ?_; rintro e w2 ⟨rfl, n2, rfl⟩; (try rw [pub0]); (try rw [pub1])) | (go_at_call 13; refine (check_any _ _ _ _ _ _ (by omega) (by omega) (by omega) (by omega) (by omega) (by omega) (by first | exact rd_marked _ 109 _ | exact rd_marked _ 110 _ | exact rd_drewN (rd_marked _ 109 _) _ | exact rd_drewN (rd_marked _ 110 _) _) (by decide)).mono ?_; rintro e w2 ⟨rfl, hb2⟩; (first | rw [HM.out] | rw [HN.out] | rw [unit0]); have HB' := Lib.hid (bl_bl (by repeat (first | exact HB.out | apply bl_drew | apply bl_drewN | apply bl_alloc)) hb2); have HS' := Lib.hid (SA.below (by repeat (first | exact HS.out | apply SA.drew | apply SA.drewN | apply SA.alloc)) hb2); clear hb2; have HB := HB'; have HS := HS'; clear HB' HS') | (go_at_call 14; refine (put_any _ _ _ (by omega) (by omega) (by omega) (by omega)).mono ?_; rintro e w2 ⟨u2, rfl, hu2, hb2⟩; obtain ⟨a2, c2, rfl⟩ := hu2.rd.shape; rw [putF_len]; have HB' := Lib.hid (bl_bl (by repeat (first | exact HB.out | apply bl_drew | apply bl_drewN | apply bl_alloc)) hb2); have HS' := Lib.hid (SA.below (by repeat (first | exact HS.out | apply SA.drew | apply SA.drewN | apply SA.alloc)) hb2); clear hb2 hu2; have HB := HB'; have HS := HS'; clear HB' HS'))
                              refine hK.out _ _ ?_ (fun hHeld => ?_)
                              · (try dsimp only); (first | (refine SA.cells ?_; repeat (first | exact HS.out | apply SA.drew | apply SA.drewN | apply SA.alloc)))
                              clear hK K 
                              try simp only [Act.put, List.setIfInBounds_toArray, List.set_cons_zero, List.set_cons_succ]
                              refine wpAnyH_take (i := 31) (v := ?_) (by simp only [List.getElem?_toArray, List.getElem?_cons_succ, List.getElem?_cons_zero]; first | done | rfl) (by kernel_rfl) (by kernel_rfl) (by kernel_rfl) (fun _ _ _ h => h) (Or.inl ⟨by rfl, ?hy⟩) (by assumption) ?_
                              case hy => (intro w hSw; (try dsimp only at hSw); go_simp; all_goals with_reducible rfl)
                              try simp only [Act.put, List.setIfInBounds_toArray, List.set_cons_zero, List.set_cons_succ]
                              refine wpAnyH_take (i := 32) (v := ?_) (by simp only [List.getElem?_toArray, List.getElem?_cons_succ, List.getElem?_cons_zero]; first | done | rfl) (by kernel_rfl) (by kernel_rfl) (by kernel_rfl) (fun _ _ _ h => h) (Or.inl ⟨by rfl, ?hy⟩) (by assumption) ?_
                              case hy => (intro w hSw; (try dsimp only at hSw); go_simp; all_goals with_reducible rfl)
                              try simp only [Act.put, List.setIfInBounds_toArray, List.set_cons_zero, List.set_cons_succ]
                              refine wpAnyH_take (i := 33) (v := ?_) (by simp only [List.getElem?_toArray, List.getElem?_cons_succ, List.getElem?_cons_zero]; first | done | rfl) (by kernel_rfl) (by kernel_rfl) (by kernel_rfl) (fun _ _ _ h => h) (Or.inl ⟨by rfl, ?hy⟩) (by assumption) ?_
                              case hy => (intro w hSw; (try dsimp only at hSw); go_simp; all_goals with_reducible rfl)
                              try simp only [Act.put, List.setIfInBounds_toArray, List.set_cons_zero, List.set_cons_succ]
                              refine wpAnyH_take (i := 34) (v := ?_) (by simp only [List.getElem?_toArray, List.getElem?_cons_succ, List.getElem?_cons_zero]; first | done | rfl) (by kernel_rfl) (by kernel_rfl) (by kernel_rfl) (fun _ _ _ h => h) (Or.inl ⟨by rfl, ?hy⟩) (by assumption) ?_
                              case hy => (intro w hSw; (try dsimp only at hSw); go_simp; all_goals with_reducible rfl)
                              try simp only [Act.put, List.setIfInBounds_toArray, List.set_cons_zero, List.set_cons_succ]
                              refine wpAnyH_done (by kernel_rfl) ?_ _
                              (refine NoPanic.normal ?_; go_wp2_with fail; go_ret; exact ⟨rfl, HB.out⟩)
                            exact AllReadyH.nil
                          exact AllReadyH.nil
                        exact AllReadyH.nil
                      exact AllReadyH.nil
                    exact AllReadyH.nil
                  exact AllReadyH.nil
                exact AllReadyH.nil
              exact AllReadyH.nil
            exact AllReadyH.nil
          exact AllReadyH.nil
        exact AllReadyH.nil
      exact AllReadyH.nil
    refine AllReadyH.cons (by simp only [List.getElem?_toArray, List.getElem?_cons_succ, List.getElem?_cons_zero]; first | done | rfl) (fun K hK => ?_) ?_
    · go_simp
      refine hK.out _ _ ?_ (fun hHeld => ?_)
      · (try dsimp only); (first | (refine SA.cells ?_; repeat (first | exact HS.out | apply SA.drew | apply SA.drewN | apply SA.alloc)))
      clear hK K 
      try simp only [Act.put, List.setIfInBounds_toArray, List.set_cons_zero, List.set_cons_succ]
      refine wpAnyH_ready (rs := [0]) (by kernel_rfl) (by simp) ?_
      refine AllReadyH.cons (by simp only [List.getElem?_toArray, List.getElem?_cons_succ, List.getElem?_cons_zero]; first | done | rfl) (fun K hK => ?_) ?_
      · go_simp
        (first | (go_at_call 12; refine (public_any _ _ (by omega) (by omega)).mono ?_; rintro e w2 ⟨rfl, n2, rfl⟩; (try rw [pub0]); (try rw [pub1])) | (go_at_call 13; refine (check_any _ _ _ _ _ _ (by omega) (by omega) (by omega) (by omega) (by omega) (by omega) (by first | exact rd_marked _ 109 _ | exact rd_marked _ 110 _ | exact rd_drewN (rd_marked _ 109 _) _ | exact rd_drewN (rd_marked _ 110 _) _) (by decide)).mono ?_; rintro e w2 ⟨rfl, hb2⟩; (first | rw [HM.out] | rw [HN.out] | rw [unit0]); have HB' := Lib.hid (bl_bl (by repeat (first | exact HB.out | apply bl_drew | apply bl_drewN | apply bl_alloc)) hb2); have HS' := Lib.hid (SA.below (by repeat (first | exact HS.out | apply SA.drew | apply SA.drewN | apply SA.alloc)) hb2); clear hb2; have HB := HB'; have HS := HS'; clear HB' HS') | (go_at_call 14; refine (put_any _ _ _ (by omega) (by omega) (by omega) (by omega)).mono ?_; rintro e w2 ⟨u2, rfl, hu2, hb2⟩; obtain ⟨a2, c2, rfl⟩ := hu2.rd.shape; rw [putF_len]; have HB' := Lib.hid (bl_bl (by repeat (first | exact HB.out | apply bl_drew | apply bl_drewN | apply bl_alloc)) hb2); have HS' := Lib.hid (SA.below (by repeat (first | exact HS.out | apply SA.drew | apply SA.drewN | apply SA.alloc)) hb2); clear hb2 hu2; have HB := HB'; have HS := HS'; clear HB' HS'))
        refine hK.out _ _ ?_ (fun hHeld => ?_)
        · (try dsimp only); (first | (refine SA.cells ?_; repeat (first | exact HS.out | apply SA.drew | apply SA.drewN | apply SA.alloc)))
        clear hK K 
        try simp only [Act.put, List.setIfInBounds_toArray, List.set_cons_zero, List.set_cons_succ]
        refine wpAnyH_ready (rs := [4]) (by kernel_rfl) (by simp) ?_
        refine AllReadyH.cons (by simp only [List.getElem?_toArray, List.getElem?_cons_succ, List.getElem?_cons_zero]; first | done | rfl) (fun K hK => ?_) ?_
        · go_simp
          (first | (go_at_call 12; refine (public_any _ _ (by omega) (by omega)).mono ?_; rintro e w2 ⟨rfl, n2, rfl⟩; (try rw [pub0]); (try rw [pub1])) | (go_at_call 13; refine (check_any _ _ _ _ _ _ (by omega) (by omega) (by omega) (by omega) (by omega) (by omega) (by first | exact rd_marked _ 109 _ | exact rd_marked _ 110 _ | exact rd_drewN (rd_marked _ 109 _) _ | exact rd_drewN (rd_marked _ 110 _) _) (by decide)).mono ?_; rintro e w2 ⟨rfl, hb2⟩; (first | rw [HM.out] | rw [HN.out] | rw [unit0]); have HB' := Lib.hid (bl_bl (by repeat (first | exact HB.out | apply bl_drew | apply bl_drewN | apply bl_alloc)) hb2); have HS' := Lib.hid (SA.below (by repeat (first | exact HS.out | apply SA.drew | apply SA.drewN | apply SA.alloc)) hb2); clear hb2; have HB := HB'; have HS := HS'; clear HB' HS') | (go_at_call 14; refine (put_any _ _ _ (by omega) (by omega) (by omega) (by omega)).mono ?_; rintro e w2 ⟨u2, rfl, hu2, hb2⟩; obtain ⟨a2, c2, rfl⟩ := hu2.rd.shape; rw [putF_len]; have HB' := Lib.hid (bl_bl (by repeat (first | exact HB.out | apply bl_drew | apply bl_drewN | apply bl_alloc)) hb2); have HS' := Lib.hid (SA.below (by repeat (first | exact HS.out | apply SA.drew | apply SA.drewN | apply SA.alloc)) hb2); clear hb2 hu2; have HB := HB'; have HS := HS'; clear HB' HS'))
          refine hK.out _ _ ?_ (fun hHeld => ?_)
          · (try dsimp only); (first | (refine SA.cells ?_; repeat (first | exact HS.out | apply SA.drew | apply SA.drewN | apply SA.alloc)))
          clear hK K 
          try simp only [Act.put, List.setIfInBounds_toArray, List.set_cons_zero, List.set_cons_succ]
          refine wpAnyH_take (i := 5) (v := ?_) (by simp only [List.getElem?_toArray, List.getElem?_cons_succ, List.getElem?_cons_zero]; first | done | rfl) (by kernel_rfl) (by kernel_rfl) (by kernel_rfl) (fun _ _ _ h => h) (Or.inl ⟨by rfl, ?hy⟩) (by assumption) ?_
          case hy => (intro w hSw; (try dsimp only at hSw); go_simp; all_goals with_reducible rfl)
          try simp only [Act.put, List.setIfInBounds_toArray, List.set_cons_zero, List.set_cons_succ]
          refine wpAnyH_take (i := 9) (v := ?_) (by simp only [List.getElem?_toArray, List.getElem?_cons_succ, List.getElem?_cons_zero]; first | done | rfl) (by kernel_rfl) (by kernel_rfl) (by kernel_rfl) (fun _ _ _ h => h) (Or.inl ⟨by rfl, ?hy⟩) (by assumption) ?_
          case hy => (intro w hSw; (try dsimp only at hSw); go_simp; all_goals with_reducible rfl)
          try simp only [Act.put, List.setIfInBounds_toArray, List.set_cons_zero, List.set_cons_succ]
          refine wpAnyH_ready (rs := [6, 7]) (by kernel_rfl) (by simp) ?_
          refine AllReadyH.cons (by simp only [List.getElem?_toArray, List.getElem?_cons_succ, List.getElem?_cons_zero]; first | done | rfl) (fun K hK => ?_) ?_
          · go_simp
            (first | (go_at_call 12; refine (public_any _ _ (by omega) (by omega)).mono ?_; rintro e w2 ⟨rfl, n2, rfl⟩; (try rw [pub0]); (try rw [pub1])) | (go_at_call 13; refine (check_any _ _ _ _ _ _ (by omega) (by omega) (by omega) (by omega) (by omega) (by omega) (by first | exact rd_marked _ 109 _ | exact rd_marked _ 110 _ | exact rd_drewN (rd_marked _ 109 _) _ | exact rd_drewN (rd_marked _ 110 _) _) (by decide)).mono ?_; rintro e w2 ⟨rfl, hb2⟩; (first | rw [HM.out] | rw [HN.out] | rw [unit0]); have HB' := Lib.hid (bl_bl (by repeat (first | exact HB.out | apply bl_drew | apply bl_drewN | apply bl_alloc)) hb2); have HS' := Lib.hid (SA.below (by repeat (first | exact HS.out | apply SA.drew | apply SA.drewN | apply SA.alloc)) hb2); clear hb2; have HB := HB'; have HS := HS'; clear HB' HS') | (go_at_call 14; refine (put_any _ _ _ (by omega) (by omega) (by omega) (by omega)).mono ?_; rintro e w2 ⟨u2, rfl, hu2, hb2⟩; obtain ⟨a2, c2, rfl⟩ := hu2.rd.shape; rw [putF_len]; have HB' := Lib.hid (bl_bl (by repeat (first | exact HB.out | apply bl_drew | apply bl_drewN | apply bl_alloc)) hb2); have HS' := Lib.hid (SA.below (by repeat (first | exact HS.out | apply SA.drew | apply SA.drewN | apply SA.alloc)) hb2); clear hb2 hu2; have HB := HB'; have HS := HS'; clear HB' HS'))
            refine hK.out _ _ ?_ (fun hHeld => ?_)
            · (try dsimp only); (first | (refine SA.cells ?_; repeat (first | exact HS.out | apply SA.drew | apply SA.drewN | apply SA.alloc)))
            clear hK K 
            try simp only [Act.put, List.setIfInBounds_toArray, List.set_cons_zero, List.set_cons_succ]
            refine wpAnyH_ready (rs := [7]) (by kernel_rfl) (by simp) ?_
            refine AllReadyH.cons (by simp only [List.getElem?_toArray, List.getElem?_cons_succ, List.getElem?_cons_zero]; first | done | rfl) (fun K hK => ?_) ?_
            · go_simp
              refine hK.out _ _ ?_ (fun hHeld => ?_)
              · (try dsimp only); (first | (refine SA.cells ?_; repeat (first | exact HS.out | apply SA.drew | apply SA.drewN | apply SA.alloc)))
              clear hK K 
              try simp only [Act.put, List.setIfInBounds_toArray, List.set_cons_zero, List.set_cons_succ]
              refine wpAnyH_ready (rs := [8]) (by kernel_rfl) (by simp) ?_
              refine AllReadyH.cons (by simp only [List.getElem?_toArray, List.getElem?_cons_succ, List.getElem?_cons_zero]; first | done | rfl) (fun K hK => ?_) ?_
              · go_simp
                refine hK.out _ _ ?_ (fun hHeld => ?_)
                · (try dsimp only); (first | (refine SA.cells ?_; repeat (first | exact HS.out | apply SA.drew | apply SA.drewN | apply SA.alloc)))
                clear hK K 
                try simp only [Act.put, List.setIfInBounds_toArray, List.set_cons_zero, List.set_cons_succ]
                refine wpAnyH_ready (rs := [10]) (by kernel_rfl) (by simp) ?_
                refine AllReadyH.cons (by simp only [List.getElem?_toArray, List.getElem?_cons_succ, List.getElem?_cons_zero]; first | done | rfl) (fun K hK => ?_) ?_
                · go_simp
                  (first | (go_at_call 12; refine (public_any _ _ (by omega) (by omega)).mono ?_; rintro e w2 ⟨rfl, n2, rfl⟩; (try rw [pub0]); (try rw [pub1])) | (go_at_call 13; refine (check_any _ _ _ _ _ _ (by omega) (by omega) (by omega) (by omega) (by omega) (by omega) (by first | exact rd_marked _ 109 _ | exact rd_marked _ 110 _ | exact rd_drewN (rd_marked _ 109 _) _ | exact rd_drewN (rd_marked _ 110 _) _) (by decide)).mono ?_; rintro e w2 ⟨rfl, hb2⟩; (first | rw [HM.out] | rw [HN.out] | rw [unit0]); have HB' := Lib.hid (bl_bl (by repeat (first | exact HB.out | apply bl_drew | apply bl_drewN | apply bl_alloc)) hb2); have HS' := Lib.hid (SA.below (by repeat (first | exact HS.out | apply SA.drew | apply SA.drewN | apply SA.alloc)) hb2); clear hb2; have HB := HB'; have HS := HS'; clear HB' HS') | (go_at_call 14; refine (put_any _ _ _ (by omega) (by omega) (by omega) (by omega)).mono ?_; rintro e w2 ⟨u2, rfl, hu2, hb2⟩; obtain ⟨a2, c2, rfl⟩ := hu2.rd.shape; rw [putF_len]; have HB' := Lib.hid (bl_bl (by repeat (first | exact HB.out | apply bl_drew | apply bl_drewN | apply bl_alloc)) hb2); have HS' := Lib.hid (SA.below (by repeat (first | exact HS.out | apply SA.drew | apply SA.drewN | apply SA.alloc)) hb2); clear hb2 hu2; have HB := HB'; have HS := HS'; clear HB' HS'))
                  refine hK.out _ _ ?_ (fun hHeld => ?_)
                  · (try dsimp only); (first | (refine SA.cells ?_; repeat (first | exact HS.out | apply SA.drew | apply SA.drewN | apply SA.alloc)))
                  clear hK K 
                  try simp only [Act.put, List.setIfInBounds_toArray, List.set_cons_zero, List.set_cons_succ]
                  refine wpAnyH_take (i := 11) (v := ?_) (by simp only [List.getElem?_toArray, List.getElem?_cons_succ, List.getElem?_cons_zero]; first | done | rfl) (by kernel_rfl) (by kernel_rfl) (by kernel_rfl) (fun _ _ _ h => h) (Or.inl ⟨by rfl, ?hy⟩) (by assumption) ?_
                  case hy => (intro w hSw; (try dsimp only at hSw); go_simp; all_goals with_reducible rfl)
                  try simp only [Act.put, List.setIfInBounds_toArray, List.set_cons_zero, List.set_cons_succ]
                  refine wpAnyH_take (i := 12) (v := ?_) (by simp only [List.getElem?_toArray, List.getElem?_cons_succ, List.getElem?_cons_zero]; first | done | rfl) (by kernel_rfl) (by kernel_rfl) (by kernel_rfl) (fun _ _ _ h => h) (Or.inl ⟨by rfl, ?hy⟩) (by assumption) ?_
                  case hy => (intro w hSw; (try dsimp only at hSw); go_simp; all_goals with_reducible rfl)
                  try simp only [Act.put, List.setIfInBounds_toArray, List.set_cons_zero, List.set_cons_succ]
                  refine wpAnyH_take (i := 13) (v := ?_) (by simp only [List.getElem?_toArray, List.getElem?_cons_succ, List.getElem?_cons_zero]; first | done | rfl) (by kernel_rfl) (by kernel_rfl) (by kernel_rfl) (fun _ _ _ h => h) (Or.inl ⟨by rfl, ?hy⟩) (by assumption) ?_
                  case hy => (intro w hSw; (try dsimp only at hSw); go_simp; all_goals with_reducible rfl)
                  try simp only [Act.put, List.setIfInBounds_toArray, List.set_cons_zero, List.set_cons_succ]
                  refine wpAnyH_take (i := 16) (v := ?_) (by simp only [List.getElem?_toArray, List.getElem?_cons_succ, List.getElem?_cons_zero]; first | done | rfl) (by kernel_rfl) (by kernel_rfl) (by kernel_rfl) (fun _ _ _ h => h) (Or.inl ⟨by rfl, ?hy⟩) (by assumption) ?_
                  case hy => (intro w hSw; (try dsimp only at hSw); go_simp; all_goals with_reducible rfl)
                  try simp only [Act.put, List.setIfInBounds_toArray, List.set_cons_zero, List.set_cons_succ]
                  refine wpAnyH_ready (rs := [14]) (by kernel_rfl) (by simp) ?_
                  refine AllReadyH.cons (by simp only [List.getElem?_toArray, List.getElem?_cons_succ, List.getElem?_cons_zero]; first | done | rfl) (fun K hK => ?_) ?_
                  · go_simp
                    refine hK.out _ _ ?_ (fun hHeld => ?_)
                    · (try dsimp only); (first | (refine SA.cells ?_; repeat (first | exact HS.out | apply SA.drew | apply SA.drewN | apply SA.alloc)))
                    clear hK K 
                    try simp only [Act.put, List.setIfInBounds_toArray, List.set_cons_zero, List.set_cons_succ]
                    refine wpAnyH_ready (rs := [15]) (by kernel_rfl) (by simp) ?_
                    refine AllReadyH.cons (by simp only [List.getElem?_toArray, List.getElem?_cons_succ, List.getElem?_cons_zero]; first | done | rfl) (fun K hK => ?_) ?_
                    · go_simp
                      refine hK.out _ _ ?_ (fun hHeld => ?_)
                      · (try dsimp only); (first | (refine SA.cells ?_; repeat (first | exact HS.out | apply SA.drew | apply SA.drewN | apply SA.alloc)))
                      clear hK K 
                      try simp only [Act.put, List.setIfInBounds_toArray, List.set_cons_zero, List.set_cons_succ]
                      refine wpAnyH_ready (rs := [17]) (by kernel_rfl) (by simp) ?_
                      refine AllReadyH.cons (by simp only [List.getElem?_toArray, List.getElem?_cons_succ, List.getElem?_cons_zero]; first | done | rfl) (fun K hK => ?_) ?_
                      · go_simp
                        (first | (go_at_call 12; refine (public_any _ _ (by omega) (by omega)).mono ?_; rintro e w2 ⟨rfl, n2, rfl⟩; (try rw [pub0]); (try rw [pub1])) | (go_at_call 13; refine (check_any _ _ _ _ _ _ (by omega) (by omega) (by omega) (by omega) (by omega) (by omega) (by first | exact rd_marked _ 109 _ | exact rd_marked _ 110 _ | exact rd_drewN (rd_marked _ 109 _) _ | exact rd_drewN (rd_marked _ 110 _) _) (by decide)).mono ?_; rintro e w2 ⟨rfl, hb2⟩; (first | rw [HM.out] | rw [HN.out] | rw [unit0]); have HB' := Lib.hid (bl_bl (by repeat (first | exact HB.out | apply bl_drew | apply bl_drewN | apply bl_alloc)) hb2); have HS' := Lib.hid (SA.below (by repeat (first | exact HS.out | apply SA.drew | apply SA.drewN | apply SA.alloc)) hb2); clear hb2; have HB := HB'; have HS := HS'; clear HB' HS') | (go_at_call 14; refine (put_any _ _ _ (by omega) (by omega) (by omega) (by omega)).mono ?_; rintro e w2 ⟨u2, rfl, hu2, hb2⟩; obtain ⟨a2, c2, rfl⟩ := hu2.rd.shape; rw [putF_len]; have HB' := Lib.hid (bl_bl (by repeat (first | exact HB.out | apply bl_drew | apply bl_drewN | apply bl_alloc)) hb2); have HS' := Lib.hid (SA.below (by repeat (first | exact HS.out | apply SA.drew | apply SA.drewN | apply SA.alloc)) hb2); clear hb2 hu2; have HB := HB'; have HS := HS'; clear HB' HS'))
                        refine hK.out _ _ ?_ (fun hHeld => ?_)
                        · (try dsimp only); (first | (refine SA.cells ?_; repeat (first | exact HS.out | apply SA.drew | apply SA.drewN | apply SA.alloc)))
                        clear hK K 
                        try simp only [Act.put, List.setIfInBounds_toArray, List.set_cons_zero, List.set_cons_succ]
                        refine wpAnyH_take (i := 18) (v := ?_) (by simp only [List.getElem?_toArray, List.getElem?_cons_succ, List.getElem?_cons_zero]; first | done | rfl) (by kernel_rfl) (by kernel_rfl) (by kernel_rfl) (fun _ _ _ h => h) (Or.inl ⟨by rfl, ?hy⟩) (by assumption) ?_
                        case hy => (intro w hSw; (try dsimp only at hSw); go_simp; all_goals with_reducible rfl)
                        try simp only [Act.put, List.setIfInBounds_toArray, List.set_cons_zero, List.set_cons_succ]
                        refine wpAnyH_take (i := 19) (v := ?_) (by simp only [List.getElem?_toArray, List.getElem?_cons_succ, List.getElem?_cons_zero]; first | done | rfl) (by kernel_rfl) (by kernel_rfl) (by kernel_rfl) (fun _ _ _ h => h) (Or.inl ⟨by rfl, ?hy⟩) (by assumption) ?_
                        case hy => (intro w hSw; (try dsimp only at hSw); go_simp; all_goals with_reducible rfl)
                        try simp only [Act.put, List.setIfInBounds_toArray, List.set_cons_zero, List.set_cons_succ]
                        refine wpAnyH_take (i := 20) (v := ?_) (by simp only [List.getElem?_toArray, List.getElem?_cons_succ, List.getElem?_cons_zero]; first | done | rfl) (by kernel_rfl) (by kernel_rfl) (by kernel_rfl) (fun _ _ _ h => h) (Or.inl ⟨by rfl, ?hy⟩) (by assumption) ?_
                        case hy => (intro w hSw; (try dsimp only at hSw); go_simp; all_goals with_reducible rfl)
                        try simp only [Act.put, List.setIfInBounds_toArray, List.set_cons_zero, List.set_cons_succ]
                        refine wpAnyH_ready (rs := [21]) (by kernel_rfl) (by simp) ?_
                        refine AllReadyH.cons (by simp only [List.getElem?_toArray, List.getElem?_cons_succ, List.getElem?_cons_zero]; first | done | rfl) (fun K hK => ?_) ?_
                        · go_simp
                          (first | (go_at_call 12; refine (public_any _ _ (by omega) (by omega)).mono ?_; rintro e w2 ⟨rfl, n2, rfl⟩; (try rw [pub0]); (try rw [pub1])) | (go_at_call 13; refine (check_any _ _ _ _ _ _ (by omega) (by omega) (by omega) (by omega) (by omega) (by omega) (by first | exact rd_marked _ 109 _ | exact rd_marked _ 110 _ | exact rd_drewN (rd_marked _ 109 _) _ | exact rd_drewN (rd_marked _ 110 _) _) (by decide)).mono ?_; rintro e w2 ⟨rfl, hb2⟩; (first | rw [HM.out] | rw [HN.out] | rw [unit0]); have HB' := Lib.hid (bl_bl (by repeat (first | exact HB.out | apply bl_drew | apply bl_drewN | apply bl_alloc)) hb2); have HS' := Lib.hid (SA.below (by repeat (first | exact HS.out | apply SA.drew | apply SA.drewN | apply SA.alloc)) hb2); clear hb2; have HB := HB'; have HS := HS'; clear HB' HS') | (go_at_call 14; refine (put_any _ _ _ (by omega) (by omega) (by omega) (by omega)).mono ?_; rintro e w2 ⟨u2, rfl, hu2, hb2⟩; obtain ⟨a2, c2, rfl⟩ := hu2.rd.shape; rw [putF_len]; have HB' := Lib.hid (bl_bl (by repeat (first | exact HB.out | apply bl_drew | apply bl_drewN | apply bl_alloc)) hb2); have HS' := Lib.hid (SA.below (by repeat (first | exact HS.out | apply SA.drew | apply SA.drewN | apply SA.alloc)) hb2); clear hb2 hu2; have HB := HB'; have HS := HS'; clear HB' HS'))
                          refine hK.out _ _ ?_ (fun hHeld => ?_)
                          · (try dsimp only); (first | (refine SA.cells ?_; repeat (first | exact HS.out | apply SA.drew | apply SA.drewN | apply SA.alloc)))
                          clear hK K 
                          try simp only [Act.put, List.setIfInBounds_toArray, List.set_cons_zero, List.set_cons_succ]
                          refine wpAnyH_take (i := 22) (v := ?_) (by simp only [List.getElem?_toArray, List.getElem?_cons_succ, List.getElem?_cons_zero]; first | done | rfl) (by kernel_rfl) (by kernel_rfl) (by kernel_rfl) (fun _ _ _ h => h) (Or.inl ⟨by rfl, ?hy⟩) (by assumption) ?_
                          case hy => (intro w hSw; (try dsimp only at hSw); go_simp; all_goals with_reducible rfl)
                          try simp only [Act.put, List.setIfInBounds_toArray, List.set_cons_zero, List.set_cons_succ]
                          refine wpAnyH_take (i := 23) (v := ?_) (by simp only [List.getElem?_toArray, List.getElem?_cons_succ, List.getElem?_cons_zero]; first | done | rfl) (by kernel_rfl) (by kernel_rfl) (by kernel_rfl) (fun _ _ _ h => h) (Or.inl ⟨by rfl, ?hy⟩) (by assumption) ?_
                          case hy => (intro w hSw; (try dsimp only at hSw); go_simp; all_goals with_reducible rfl)
                          try simp only [Act.put, List.setIfInBounds_toArray, List.set_cons_zero, List.set_cons_succ]
                          refine wpAnyH_take (i := 24) (v := ?_) (by simp only [List.getElem?_toArray, List.getElem?_cons_succ, List.getElem?_cons_zero]; first | done | rfl) (by kernel_rfl) (by kernel_rfl) (by kernel_rfl) (fun _ _ _ h => h) (Or.inl ⟨by rfl, ?hy⟩) (by assumption) ?_
                          case hy => (intro w hSw; (try dsimp only at hSw); go_simp; all_goals with_reducible rfl)
                          try simp only [Act.put, List.setIfInBounds_toArray, List.set_cons_zero, List.set_cons_succ]
                          refine wpAnyH_ready (rs := [25]) (by kernel_rfl) (by simp) ?_
                          refine AllReadyH.cons (by simp only [List.getElem?_toArray, List.getElem?_cons_succ, List.getElem?_cons_zero]; first | done | rfl) (fun K hK => ?_) ?_
                          · go_simp
                            (first | (go_at_call 12; refine (public_any _ _ (by omega) (by omega)).mono ?_; rintro e w2 ⟨rfl, n2, rfl⟩; (try rw [pub0]); (try rw [pub1])) | (go_at_call 13; refine (check_any _ _ _ _ _ _ (by omega) (by omega) (by omega) (by omega) (by omega) (by omega) (by first | exact rd_marked _ 109 _ | exact rd_marked _ 110 _ | exact rd_drewN (rd_marked _ 109 _) _ | exact rd_drewN (rd_marked _ 110 _) _) (by decide)).mono ?_; rintro e w2 ⟨rfl, hb2⟩; (first | rw [HM.out] | rw [HN.out] | rw [unit0]); have HB' := Lib.hid (bl_bl (by repeat (first | exact HB.out | apply bl_drew | apply bl_drewN | apply bl_alloc)) hb2); have HS' := Lib.hid (SA.below (by repeat (first | exact HS.out | apply SA.drew | apply SA.drewN | apply SA.alloc)) hb2); clear hb2; have HB := HB'; have HS := HS'; clear HB' HS') | (go_at_call 14; refine (put_any _ _ _ (by omega) (by omega) (by omega) (by omega)).mono ?_; rintro e w2 ⟨u2, rfl, hu2, hb2⟩; obtain ⟨a2, c2, rfl⟩ := hu2.rd.shape; rw [putF_len]; have HB' := Lib.hid (bl_bl (by repeat (first | exact HB.out | apply bl_drew | apply bl_drewN | apply bl_alloc)) hb2); have HS' := Lib.hid (SA.below (by repeat (first | exact HS.out | apply SA.drew | apply SA.drewN | apply SA.alloc)) hb2); clear hb2 hu2; have HB := HB'; have HS := HS'; clear HB' HS'))
                            refine hK.out _ _ ?_ (fun hHeld => ?_)
                            · (try dsimp only); (first | (refine SA.cells ?_; repeat (first | exact HS.out | apply SA.drew | apply SA.drewN | apply SA.alloc)))
                            clear hK K 
                            try simp only [Act.put, List.setIfInBounds_toArray, List.set_cons_zero, List.set_cons_succ]
                            refine wpAnyH_take (i := 26) (v := ?_) (by simp only [List.getElem?_toArray, List.getElem?_cons_succ, List.getElem?_cons_zero]; first | done | rfl) (by kernel_rfl) (by kernel_rfl) (by kernel_rfl) (fun _ _ _ h => h) (Or.inl ⟨by rfl, ?hy⟩) (by assumption) ?_
                            case hy => (intro w hSw; (try dsimp only at hSw); go_simp; all_goals with_reducible rfl)
                            try simp only [Act.put, List.setIfInBounds_toArray, List.set_cons_zero, List.set_cons_succ]
                            refine wpAnyH_take (i := 27) (v := ?_) (by simp only [List.getElem?_toArray, List.getElem?_cons_succ, List.getElem?_cons_zero]; first | done | rfl) (by kernel_rfl) (by kernel_rfl) (by kernel_rfl) (fun _ _ _ h => h) (Or.inl ⟨by rfl, ?hy⟩) (by assumption) ?_
                            case hy => (intro w hSw; (try dsimp only at hSw); go_simp; all_goals with_reducible rfl)
                            try simp only [Act.put, List.setIfInBounds_toArray, List.set_cons_zero, List.set_cons_succ]
                            refine wpAnyH_take (i := 28) (v := ?_) (by simp only [List.getElem?_toArray, List.getElem?_cons_succ, List.getElem?_cons_zero]; first | done | rfl) (by kernel_rfl) (by kernel_rfl) (by kernel_rfl) (fun _ _ _ h => h) (Or.inl ⟨by rfl, ?hy⟩) (by assumption) ?_
                            case hy => (intro w hSw; (try dsimp only at hSw); go_simp; all_goals with_reducible rfl)
                            try simp only [Act.put, List.setIfInBounds_toArray, List.set_cons_zero, List.set_cons_succ]
                            refine wpAnyH_take (i := 29) (v := ?_) (by simp only [List.getElem?_toArray, List.getElem?_cons_succ, List.getElem?_cons_zero]; first | done | rfl) (by kernel_rfl) (by kernel_rfl) (by kernel_rfl) (fun _ _ _ h => h) (Or.inl ⟨by rfl, ?hy⟩) (by assumption) ?_
                            case hy => (intro w hSw; (try dsimp only at hSw); go_simp; all_goals with_reducible rfl)
                            try simp only [Act.put, List.setIfInBounds_toArray, List.set_cons_zero, List.set_cons_succ]
                            refine wpAnyH_ready (rs := [30]) (by kernel_rfl) (by simp) ?_
                            refine AllReadyH.cons (by simp only [List.getElem?_toArray, List.getElem?_cons_succ, List.getElem?_cons_zero]; first | done | rfl) (fun K hK => ?_) ?_
                            · go_simp
                              (first | (go_at_call 12; refine (public_any _ _ (by omega) (by omega)).mono ?_; rintro e w2 ⟨rfl, n2, rfl⟩; (try rw [pub0]); (try rw [pub1])) | (go_at_call 13; refine (check_any _ _ _ _ _ _ (by omega) (by omega) (by omega) (by omega) (by omega) (by omega) (by first | exact rd_marked _ 109 _ | exact rd_marked _ 110 _ | exact rd_drewN (rd_marked _ 109 _) _ | exact rd_drewN (rd_marked _ 110 _) _) (by decide)).mono ?_; rintro e w2 ⟨rfl, hb2⟩; (first | rw [HM.out] | rw [HN.out] | rw [unit0]); have HB' := Lib.hid (bl_bl (by repeat (first | exact HB.out | apply bl_drew | apply bl_drewN | apply bl_alloc)) hb2); have HS' := Lib.hid (SA.below (by repeat (first | exact HS.out | apply SA.drew | apply SA.drewN | apply SA.alloc)) hb2); clear hb2; have HB := HB'; have HS := HS'; clear HB' HS') | (go_at_call 14; refine (put_any _ _ _ (by omega) (by omega) (by omega) (by omega)).mono ?_; rintro e w2 ⟨u2, rfl, hu2, hb2⟩; obtain ⟨a2, c2, rfl⟩ := hu2.rd.shape; rw [putF_len]; have HB' := Lib.hid (bl_bl (by repeat (first | exact HB.out | apply bl_drew | apply bl_drewN | apply bl_alloc)) hb2); have HS' := Lib.hid (SA.below (by repeat (first | exact HS.out | apply SA.drew | apply SA.drewN | apply SA.alloc)) hb2); clear hb2 hu2; have HB := HB'; have HS := HS'; clear HB' HS'))
                              refine hK.out _ _ ?_ (fun hHeld => ?_)
                              · (try dsimp only); (first | (refine SA.cells ?_; repeat (first | exact HS.out | apply SA.drew | apply SA.drewN | apply SA.alloc)))
                              clear hK K 
                              try simp only [Act.put, List.setIfInBounds_toArray, List.set_cons_zero, List.set_cons_succ]
                              refine wpAnyH_take (i := 31) (v := ?_) (by simp only [List.getElem?_toArray, List.getElem?_cons_succ, List.getElem?_cons_zero]; first | done | rfl) (by kernel_rfl) (by kernel_rfl) (by kernel_rfl) (fun _ _ _ h => h) (Or.inl ⟨by rfl, ?hy⟩) (by assumption) ?_
                              case hy => (intro w hSw; (try dsimp only at hSw); go_simp; all_goals with_reducible rfl)
                              try simp only [Act.put, List.setIfInBounds_toArray, List.set_cons_zero, List.set_cons_succ]
                              refine wpAnyH_take (i := 32) (v := ?_) (by simp only [List.getElem?_toArray, List.getElem?_cons_succ, List.getElem?_cons_zero]; first | done | rfl) (by kernel_rfl) (by kernel_rfl) (by kernel_rfl) (fun _ _ _ h => h) (Or.inl ⟨by rfl, ?hy⟩) (by assumption) ?_
                              case hy => (intro w hSw; (try dsimp only at hSw); go_simp; all_goals with_reducible rfl)
                              try simp only [Act.put, List.setIfInBounds_toArray, List.set_cons_zero, List.set_cons_succ]
                              refine wpAnyH_take (i := 33) (v := ?_) (by simp only [List.getElem?_toArray, List.getElem?_cons_succ, List.getElem?_cons_zero]; first | done | rfl) (by kernel_rfl) (by kernel_rfl) (by kernel_rfl) (fun _ _ _ h => h) (Or.inl ⟨by rfl, ?hy⟩) (by assumption) ?_
                              case hy => (intro w hSw; (try dsimp only at hSw); go_simp; all_goals with_reducible rfl)
                              try simp only [Act.put, List.setIfInBounds_toArray, List.set_cons_zero, List.set_cons_succ]
                              refine wpAnyH_take (i := 34) (v := ?_) (by simp only [List.getElem?_toArray, List.getElem?_cons_succ, List.getElem?_cons_zero]; first | done | rfl) (by kernel_rfl) (by kernel_rfl) (by kernel_rfl) (fun _ _ _ h => h) (Or.inl ⟨by rfl, ?hy⟩) (by assumption) ?_
                              case hy => (intro w hSw; (try dsimp only at hSw); go_simp; all_goals with_reducible rfl)
                              try simp only [Act.put, List.setIfInBounds_toArray, List.set_cons_zero, List.set_cons_succ]
                              refine wpAnyH_done (by kernel_rfl) ?_ _
                              (refine NoPanic.normal ?_; go_wp2_with fail; go_ret; exact ⟨rfl, HB.out⟩)
                            exact AllReadyH.nil
                          exact AllReadyH.nil
                        exact AllReadyH.nil
                      exact AllReadyH.nil
                    exact AllReadyH.nil
                  exact AllReadyH.nil
                exact AllReadyH.nil
              exact AllReadyH.nil
            exact AllReadyH.nil
          refine AllReadyH.cons (by simp only [List.getElem?_toArray, List.getElem?_cons_succ, List.getElem?_cons_zero]; first | done | rfl) (fun K hK => ?_) ?_
          · go_simp
            refine hK.out _ _ ?_ (fun hHeld => ?_)
            · (try dsimp only); (first | (refine SA.cells ?_; repeat (first | exact HS.out | apply SA.drew | apply SA.drewN | apply SA.alloc)))
            clear hK K 
            try simp only [Act.put, List.setIfInBounds_toArray, List.set_cons_zero, List.set_cons_succ]
            refine wpAnyH_ready (rs := [6, 8]) (by kernel_rfl) (by simp) ?_
            refine AllReadyH.cons (by simp only [List.getElem?_toArray, List.getElem?_cons_succ, List.getElem?_cons_zero]; first | done | rfl) (fun K hK => ?_) ?_
            · go_simp
              (first | (go_at_call 12; refine (public_any _ _ (by omega) (by omega)).mono ?_; rintro e w2 ⟨rfl, n2, rfl⟩; (try rw [pub0]); (try rw [pub1])) | (go_at_call 13; refine (check_any _ _ _ _ _ _ (by omega) (by omega) (by omega) (by omega) (by omega) (by omega) (by first | exact rd_marked _ 109 _ | exact rd_marked _ 110 _ | exact rd_drewN (rd_marked _ 109 _) _ | exact rd_drewN (rd_marked _ 110 _) _) (by decide)).mono ?_; rintro e w2 ⟨rfl, hb2⟩; (first | rw [HM.out] | rw [HN.out] | rw [unit0]); have HB' := Lib.hid (bl_bl (by repeat (first | exact HB.out | apply bl_drew | apply bl_drewN | apply bl_alloc)) hb2); have HS' := Lib.hid (SA.below (by repeat (first | exact HS.out | apply SA.drew | apply SA.drewN | apply SA.alloc)) hb2); clear hb2; have HB := HB'; have HS := HS'; clear HB' HS') | (go_at_call 14; refine (put_any _ _ _ (by omega) (by omega) (by omega) (by omega)).mono ?_; rintro e w2 ⟨u2, rfl, hu2, hb2⟩; obtain ⟨a2, c2, rfl⟩ := hu2.rd.shape; rw [putF_len]; have HB' := Lib.hid (bl_bl (by repeat (first | exact HB.out | apply bl_drew | apply bl_drewN | apply bl_alloc)) hb2); have HS' := Lib.hid (SA.below (by repeat (first | exact HS.out | apply SA.drew | apply SA.drewN | apply SA.alloc)) hb2); clear hb2 hu2; have HB := HB'; have HS := HS'; clear HB' HS'))
              refine hK.out _ _ ?_ (fun hHeld => ?_)
              · (try dsimp only); (first | (refine SA.cells ?_; repeat (first | exact HS.out | apply SA.drew | apply SA.drewN | apply SA.alloc)))
              clear hK K 
              try simp only [Act.put, List.setIfInBounds_toArray, List.set_cons_zero, List.set_cons_succ]
              refine wpAnyH_ready (rs := [8]) (by kernel_rfl) (by simp) ?_
              refine AllReadyH.cons (by simp only [List.getElem?_toArray, List.getElem?_cons_succ, List.getElem?_cons_zero]; first | done | rfl) (fun K hK => ?_) ?_
              · go_simp
                refine hK.out _ _ ?_ (fun hHeld => ?_)
                · (try dsimp only); (first | (refine SA.cells ?_; repeat (first | exact HS.out | apply SA.drew | apply SA.drewN | apply SA.alloc)))
                clear hK K 
                try simp only [Act.put, List.setIfInBounds_toArray, List.set_cons_zero, List.set_cons_succ]
                refine wpAnyH_ready (rs := [10]) (by kernel_rfl) (by simp) ?_
                refine AllReadyH.cons (by simp only [List.getElem?_toArray, List.getElem?_cons_succ, List.getElem?_cons_zero]; first | done | rfl) (fun K hK => ?_) ?_
                · go_simp
                  (first | (go_at_call 12; refine (public_any _ _ (by omega) (by omega)).mono ?_; rintro e w2 ⟨rfl, n2, rfl⟩; (try rw [pub0]); (try rw [pub1])) | (go_at_call 13; refine (check_any _ _ _ _ _ _ (by omega) (by omega) (by omega) (by omega) (by omega) (by omega) (by first | exact rd_marked _ 109 _ | exact rd_marked _ 110 _ | exact rd_drewN (rd_marked _ 109 _) _ | exact rd_drewN (rd_marked _ 110 _) _) (by decide)).mono ?_; rintro e w2 ⟨rfl, hb2⟩; (first | rw [HM.out] | rw [HN.out] | rw [unit0]); have HB' := Lib.hid (bl_bl (by repeat (first | exact HB.out | apply bl_drew | apply bl_drewN | apply bl_alloc)) hb2); have HS' := Lib.hid (SA.below (by repeat (first | exact HS.out | apply SA.drew | apply SA.drewN | apply SA.alloc)) hb2); clear hb2; have HB := HB'; have HS := HS'; clear HB' HS') | (go_at_call 14; refine (put_any _ _ _ (by omega) (by omega) (by omega) (by omega)).mono ?_; rintro e w2 ⟨u2, rfl, hu2, hb2⟩; obtain ⟨a2, c2, rfl⟩ := hu2.rd.shape; rw [putF_len]; have HB' := Lib.hid (bl_bl (by repeat (first | exact HB.out | apply bl_drew | apply bl_drewN | apply bl_alloc)) hb2); have HS' := Lib.hid (SA.below (by repeat (first | exact HS.out | apply SA.drew | apply SA.drewN | apply SA.alloc)) hb2); clear hb2 hu2; have HB := HB'; have HS := HS'; clear HB' HS'))
                  refine hK.out _ _ ?_ (fun hHeld => ?_)
                  · (try dsimp only); (first | (refine SA.cells ?_; repeat (first | exact HS.out | apply SA.drew | apply SA.drewN | apply SA.alloc)))
                  clear hK K 
                  try simp only [Act.put, List.setIfInBounds_toArray, List.set_cons_zero, List.set_cons_succ]
                  refine wpAnyH_take (i := 11) (v := ?_) (by simp only [List.getElem?_toArray, List.getElem?_cons_succ, List.getElem?_cons_zero]; first | done | rfl) (by kernel_rfl) (by kernel_rfl) (by kernel_rfl) (fun _ _ _ h => h) (Or.inl ⟨by rfl, ?hy⟩) (by assumption) ?_
                  case hy => (intro w hSw; (try dsimp only at hSw); go_simp; all_goals with_reducible rfl)
                  try simp only [Act.put, List.setIfInBounds_toArray, List.set_cons_zero, List.set_cons_succ]
                  refine wpAnyH_take (i := 12) (v := ?_) (by simp only [List.getElem?_toArray, List.getElem?_cons_succ, List.getElem?_cons_zero]; first | done | rfl) (by kernel_rfl) (by kernel_rfl) (by kernel_rfl) (fun _ _ _ h => h) (Or.inl ⟨by rfl, ?hy⟩) (by assumption) ?_
                  case hy => (intro w hSw; (try dsimp only at hSw); go_simp; all_goals with_reducible rfl)
                  try simp only [Act.put, List.setIfInBounds_toArray, List.set_cons_zero, List.set_cons_succ]
                  refine wpAnyH_take (i := 13) (v := ?_) (by simp only [List.getElem?_toArray, List.getElem?_cons_succ, List.getElem?_cons_zero]; first | done | rfl) (by kernel_rfl) (by kernel_rfl) (by kernel_rfl) (fun _ _ _ h => h) (Or.inl ⟨by rfl, ?hy⟩) (by assumption) ?_
                  case hy => (intro w hSw; (try dsimp only at hSw); go_simp; all_goals with_reducible rfl)
                  try simp only [Act.put, List.setIfInBounds_toArray, List.set_cons_zero, List.set_cons_succ]
                  refine wpAnyH_take (i := 16) (v := ?_) (by simp only [List.getElem?_toArray, List.getElem?_cons_succ, List.getElem?_cons_zero]; first | done | rfl) (by kernel_rfl) (by kernel_rfl) (by kernel_rfl) (fun _ _ _ h => h) (Or.inl ⟨by rfl, ?hy⟩) (by assumption) ?_
                  case hy => (intro w hSw; (try dsimp only at hSw); go_simp; all_goals with_reducible rfl)
                  try simp only [Act.put, List.setIfInBounds_toArray, List.set_cons_zero, List.set_cons_succ]
                  refine wpAnyH_ready (rs := [14]) (by kernel_rfl) (by simp) ?_
                  refine AllReadyH.cons (by simp only [List.getElem?_toArray, List.getElem?_cons_succ, List.getElem?_cons_zero]; first | done | rfl) (fun K hK => ?_) ?_
                  · go_simp
                    refine hK.out _ _ ?_ (fun hHeld => ?_)
                    · (try dsimp only); (first | (refine SA.cells ?_; repeat (first | exact HS.out | apply SA.drew | apply SA.drewN | apply SA.alloc)))
                    clear hK K 
                    try simp only [Act.put, List.setIfInBounds_toArray, List.set_cons_zero, List.set_cons_succ]
                    refine wpAnyH_ready (rs := [15]) (by kernel_rfl) (by simp) ?_
                    refine AllReadyH.cons (by simp only [List.getElem?_toArray, List.getElem?_cons_succ, List.getElem?_cons_zero]; first | done | rfl) (fun K hK => ?_) ?_
                    · go_simp
                      refine hK.out _ _ ?_ (fun hHeld => ?_)
                      · (try dsimp only); (first | (refine SA.cells ?_; repeat (first | exact HS.out | apply SA.drew | apply SA.drewN | apply SA.alloc)))
                      clear hK K 
                      try simp only [Act.put, List.setIfInBounds_toArray, List.set_cons_zero, List.set_cons_succ]
                      refine wpAnyH_ready (rs := [17]) (by kernel_rfl) (by simp) ?_
                      refine AllReadyH.cons (by simp only [List.getElem?_toArray, List.getElem?_cons_succ, List.getElem?_cons_zero]; first | done | rfl) (fun K hK => ?_) ?_
                      · go_simp
                        (first | (go_at_call 12; refine (public_any _ _ (by omega) (by omega)).mono ?_; rintro e w2 ⟨rfl, n2, rfl⟩; (try rw [pub0]); (try rw [pub1])) | (go_at_call 13; refine (check_any _ _ _ _ _ _ (by omega) (by omega) (by omega) (by omega) (by omega) (by omega) (by first | exact rd_marked _ 109 _ | exact rd_marked _ 110 _ | exact rd_drewN (rd_marked _ 109 _) _ | exact rd_drewN (rd_marked _ 110 _) _) (by decide)).mono ?_; rintro e w2 ⟨rfl, hb2⟩; (first | rw [HM.out] | rw [HN.out] | rw [unit0]); have HB' := Lib.hid (bl_bl (by repeat (first | exact HB.out | apply bl_drew | apply bl_drewN | apply bl_alloc)) hb2); have HS' := Lib.hid (SA.below (by repeat (first | exact HS.out | apply SA.drew | apply SA.drewN | apply SA.alloc)) hb2); clear hb2; have HB := HB'; have HS := HS'; clear HB' HS') | (go_at_call 14; refine (put_any _ _ _ (by omega) (by omega) (by omega) (by omega)).mono ?_; rintro e w2 ⟨u2, rfl, hu2, hb2⟩; obtain ⟨a2, c2, rfl⟩ := hu2.rd.shape; rw [putF_len]; have HB' := Lib.hid (bl_bl (by repeat (first | exact HB.out | apply bl_drew | apply bl_drewN | apply bl_alloc)) hb2); have HS' := Lib.hid (SA.below (by repeat (first | exact HS.out | apply SA.drew | apply SA.drewN | apply SA.alloc)) hb2); clear hb2 hu2; have HB := HB'; have HS := HS'; clear HB' HS'))
                        refine hK.out _ _ ?_ (fun hHeld => ?_)
                        · (try dsimp only); (first | (refine SA.cells ?_; repeat (first | exact HS.out | apply SA.drew | apply SA.drewN | apply SA.alloc)))
                        clear hK K 
                        try simp only [Act.put, List.setIfInBounds_toArray, List.set_cons_zero, List.set_cons_succ]
                        refine wpAnyH_take (i := 18) (v := ?_) (by simp only [List.getElem?_toArray, List.getElem?_cons_succ, List.getElem?_cons_zero]; first | done | rfl) (by kernel_rfl) (by kernel_rfl) (by kernel_rfl) (fun _ _ _ h => h) (Or.inl ⟨by rfl, ?hy⟩) (by assumption) ?_
                        case hy => (intro w hSw; (try dsimp only at hSw); go_simp; all_goals with_reducible rfl)
                        try simp only [Act.put, List.setIfInBounds_toArray, List.set_cons_zero, List.set_cons_succ]
                        refine wpAnyH_take (i := 19) (v := ?_) (by simp only [List.getElem?_toArray, List.getElem?_cons_succ, List.getElem?_cons_zero]; first | done | rfl) (by kernel_rfl) (by kernel_rfl) (by kernel_rfl) (fun _ _ _ h => h) (Or.inl ⟨by rfl, ?hy⟩) (by assumption) ?_
                        case hy => (intro w hSw; (try dsimp only at hSw); go_simp; all_goals with_reducible rfl)
                        try simp only [Act.put, List.setIfInBounds_toArray, List.set_cons_zero, List.set_cons_succ]
                        refine wpAnyH_take (i := 20) (v := ?_) (by simp only [List.getElem?_toArray, List.getElem?_cons_succ, List.getElem?_cons_zero]; first | done | rfl) (by kernel_rfl) (by kernel_rfl) (by kernel_rfl) (fun _ _ _ h => h) (Or.inl ⟨by rfl, ?hy⟩) (by assumption) ?_
                        case hy => (intro w hSw; (try dsimp only at hSw); go_simp; all_goals with_reducible rfl)
                        try simp only [Act.put, List.setIfInBounds_toArray, List.set_cons_zero, List.set_cons_succ]
                        refine wpAnyH_ready (rs := [21]) (by kernel_rfl) (by simp) ?_
                        refine AllReadyH.cons (by simp only [List.getElem?_toArray, List.getElem?_cons_succ, List.getElem?_cons_zero]; first | done | rfl) (fun K hK => ?_) ?_
                        · go_simp
                          (first | (go_at_call 12; refine (public_any _ _ (by omega) (by omega)).mono ?_; rintro e w2 ⟨rfl, n2, rfl⟩; (try rw [pub0]); (try rw [pub1])) | (go_at_call 13; refine (check_any _ _ _ _ _ _ (by omega) (by omega) (by omega) (by omega) (by omega) (by omega) (by first | exact rd_marked _ 109 _ | exact rd_marked _ 110 _ | exact rd_drewN (rd_marked _ 109 _) _ | exact rd_drewN (rd_marked _ 110 _) _) (by decide)).mono ?_; rintro e w2 ⟨rfl, hb2⟩; (first | rw [HM.out] | rw [HN.out] | rw [unit0]); have HB' := Lib.hid (bl_bl (by repeat (first | exact HB.out | apply bl_drew | apply bl_drewN | apply bl_alloc)) hb2); have HS' := Lib.hid (SA.below (by repeat (first | exact HS.out | apply SA.drew | apply SA.drewN | apply SA.alloc)) hb2); clear hb2; have HB := HB'; have HS := HS'; clear HB' HS') | (go_at_call 14; refine (put_any _ _ _ (by omega) (by omega) (by omega) (by omega)).mono ?_; rintro e w2 ⟨u2, rfl, hu2, hb2⟩; obtain ⟨a2, c2, rfl⟩ := hu2.rd.shape; rw [putF_len]; have HB' := Lib.hid (bl_bl (by repeat (first | exact HB.out | apply bl_drew | apply bl_drewN | apply bl_alloc)) hb2); have HS' := Lib.hid (SA.below (by repeat (first | exact HS.out | apply SA.drew | apply SA.drewN | apply SA.alloc)) hb2); clear hb2 hu2; have HB := HB'; have HS := HS'; clear HB' HS'))
                          refine hK.out _ _ ?_ (fun hHeld => ?_)
                          · (try dsimp only); (first | (refine SA.cells ?_; repeat (first | exact HS.out | apply SA.drew | apply SA.drewN | apply SA.alloc)))
                          clear hK K 
                          try simp only [Act.put, List.setIfInBounds_toArray, List.set_cons_zero, List.set_cons_succ]
                          refine wpAnyH_take (i := 22) (v := ?_) (by simp only [List.getElem?_toArray, List.getElem?_cons_succ, List.getElem?_cons_zero]; first | done | rfl) (by kernel_rfl) (by kernel_rfl) (by kernel_rfl) (fun _ _ _ h => h) (Or.inl ⟨by rfl, ?hy⟩) (by assumption) ?_
                          case hy => (intro w hSw; (try dsimp only at hSw); go_simp; all_goals with_reducible rfl)
                          try simp only [Act.put, List.setIfInBounds_toArray, List.set_cons_zero, List.set_cons_succ]
                          refine wpAnyH_take (i := 23) (v := ?_) (by simp only [List.getElem?_toArray, List.getElem?_cons_succ, List.getElem?_cons_zero]; first | done | rfl) (by kernel_rfl) (by kernel_rfl) (by kernel_rfl) (fun _ _ _ h => h) (Or.inl ⟨by rfl, ?hy⟩) (by assumption) ?_
                          case hy => (intro w hSw; (try dsimp only at hSw); go_simp; all_goals with_reducible rfl)
                          try simp only [Act.put, List.setIfInBounds_toArray, List.set_cons_zero, List.set_cons_succ]
                          refine wpAnyH_take (i := 24) (v := ?_) (by simp only [List.getElem?_toArray, List.getElem?_cons_succ, List.getElem?_cons_zero]; first | done | rfl) (by kernel_rfl) (by kernel_rfl) (by kernel_rfl) (fun _ _ _ h => h) (Or.inl ⟨by rfl, ?hy⟩) (by assumption) ?_
                          case hy => (intro w hSw; (try dsimp only at hSw); go_simp; all_goals with_reducible rfl)
                          try simp only [Act.put, List.setIfInBounds_toArray, List.set_cons_zero, List.set_cons_succ]
                          refine wpAnyH_ready (rs := [25]) (by kernel_rfl) (by simp) ?_
                          refine AllReadyH.cons (by simp only [List.getElem?_toArray, List.getElem?_cons_succ, List.getElem?_cons_zero]; first | done | rfl) (fun K hK => ?_) ?_
                          · go_simp
                            (first | (go_at_call 12; refine (public_any _ _ (by omega) (by omega)).mono ?_; rintro e w2 ⟨rfl, n2, rfl⟩; (try rw [pub0]); (try rw [pub1])) | (go_at_call 13; refine (check_any _ _ _ _ _ _ (by omega) (by omega) (by omega) (by omega) (by omega) (by omega) (by first | exact rd_marked _ 109 _ | exact rd_marked _ 110 _ | exact rd_drewN (rd_marked _ 109 _) _ | exact rd_drewN (rd_marked _ 110 _) _) (by decide)).mono ?_; rintro e w2 ⟨rfl, hb2⟩; (first | rw [HM.out] | rw [HN.out] | rw [unit0]); have HB' := Lib.hid (bl_bl (by repeat (first | exact HB.out | apply bl_drew | apply bl_drewN | apply bl_alloc)) hb2); have HS' := Lib.hid (SA.below (by repeat (first | exact HS.out | apply SA.drew | apply SA.drewN | apply SA.alloc)) hb2); clear hb2; have HB := HB'; have HS := HS'; clear HB' HS') | (go_at_call 14; refine (put_any _ _ _ (by omega) (by omega) (by omega) (by omega)).mono ?_; rintro e w2 ⟨u2, rfl, hu2, hb2⟩; obtain ⟨a2, c2, rfl⟩ := hu2.rd.shape; rw [putF_len]; have HB' := Lib.hid (bl_bl (by repeat (first | exact HB.out | apply bl_drew | apply bl_drewN | apply bl_alloc)) hb2); have HS' := Lib.hid (SA.below (by repeat (first | exact HS.out | apply SA.drew | apply SA.drewN | apply SA.alloc)) hb2); clear hb2 hu2; have HB := HB'; have HS := HS'; clear HB' HS'))
                            refine hK.out _ _ ?_ (fun hHeld => ?_)
                            · (try dsimp only); (first | (refine SA.cells ?_; repeat (first | exact HS.out | apply SA.drew | apply SA.drewN | apply SA.alloc)))
                            clear hK K 
                            try simp only [Act.put, List.setIfInBounds_toArray, List.set_cons_zero, List.set_cons_succ]
                            refine wpAnyH_take (i := 26) (v := ?_) (by simp only [List.getElem?_toArray, List.getElem?_cons_succ, List.getElem?_cons_zero]; first | done | rfl) (by kernel_rfl) (by kernel_rfl) (by kernel_rfl) (fun _ _ _ h => h) (Or.inl ⟨by rfl, ?hy⟩) (by assumption) ?_
                            case hy => (intro w hSw; (try dsimp only at hSw); go_simp; all_goals with_reducible rfl)
                            try simp only [Act.put, List.setIfInBounds_toArray, List.set_cons_zero, List.set_cons_succ]
                            refine wpAnyH_take (i := 27) (v := ?_) (by simp only [List.getElem?_toArray, List.getElem?_cons_succ, List.getElem?_cons_zero]; first | done | rfl) (by kernel_rfl) (by kernel_rfl) (by kernel_rfl) (fun _ _ _ h => h) (Or.inl ⟨by rfl, ?hy⟩) (by assumption) ?_
                            case hy => (intro w hSw; (try dsimp only at hSw); go_simp; all_goals with_reducible rfl)
                            try simp only [Act.put, List.setIfInBounds_toArray, List.set_cons_zero, List.set_cons_succ]
                            refine wpAnyH_take (i := 28) (v := ?_) (by simp only [List.getElem?_toArray, List.getElem?_cons_succ, List.getElem?_cons_zero]; first | done | rfl) (by kernel_rfl) (by kernel_rfl) (by kernel_rfl) (fun _ _ _ h => h) (Or.inl ⟨by rfl, ?hy⟩) (by assumption) ?_
                            case hy => (intro w hSw; (try dsimp only at hSw); go_simp; all_goals with_reducible rfl)
                            try simp only [Act.put, List.setIfInBounds_toArray, List.set_cons_zero, List.set_cons_succ]
                            refine wpAnyH_take (i := 29) (v := ?_) (by simp only [List.getElem?_toArray, List.getElem?_cons_succ, List.getElem?_cons_zero]; first | done | rfl) (by kernel_rfl) (by kernel_rfl) (by kernel_rfl) (fun _ _ _ h => h) (Or.inl ⟨by rfl, ?hy⟩) (by assumption) ?_
                            case hy => (intro w hSw; (try dsimp only at hSw); go_simp; all_goals with_reducible rfl)
                            try simp only [Act.put, List.setIfInBounds_toArray, List.set_cons_zero, List.set_cons_succ]
                            refine wpAnyH_ready (rs := [30]) (by kernel_rfl) (by simp) ?_
                            refine AllReadyH.cons (by simp only [List.getElem?_toArray, List.getElem?_cons_succ, List.getElem?_cons_zero]; first | done | rfl) (fun K hK => ?_) ?_
                            · go_simp
                              (first | (go_at_call 12; refine (public_any _ _ (by omega) (by omega)).mono ?_; rintro e w2 ⟨rfl, n2, rfl⟩; (try rw [pub0]); (try rw [pub1])) | (go_at_call 13; refine (check_any _ _ _ _ _ _ (by omega) (by omega) (by omega) (by omega) (by omega) (by omega) (by first | exact rd_marked _ 109 _ | exact rd_marked _ 110 _ | exact rd_drewN (rd_marked _ 109 _) _ | exact rd_drewN (rd_marked _ 110 _) _) (by decide)).mono ?_; rintro e w2 ⟨rfl, hb2⟩; (first | rw [HM.out] | rw [HN.out] | rw [unit0]); have HB' := Lib.hid (bl_bl (by repeat (first | exact HB.out | apply bl_drew | apply bl_drewN | apply bl_alloc)) hb2); have HS' := Lib.hid (SA.below (by repeat (first | exact HS.out | apply SA.drew | apply SA.drewN | apply SA.alloc)) hb2); clear hb2; have HB := HB'; have HS := HS'; clear HB' HS') | (go_at_call 14; refine (put_any _ _ _ (by omega) (by omega) (by omega) (by omega)).mono ?_; rintro e w2 ⟨u2, rfl, hu2, hb2⟩; obtain ⟨a2, c2, rfl⟩ := hu2.rd.shape; rw [putF_len]; have HB' := Lib.hid (bl_bl (by repeat (first | exact HB.out | apply bl_drew | apply bl_drewN | apply bl_alloc)) hb2); have HS' := Lib.hid (SA.below (by repeat (first | exact HS.out | apply SA.drew | apply SA.drewN | apply SA.alloc)) hb2); clear hb2 hu2; have HB := HB'; have HS := HS'; clear HB' HS'))
                              refine hK.out _ _ ?_ (fun hHeld => ?_)
                              · (try dsimp only); (first | (refine SA.cells ?_; repeat (first | exact HS.out | apply SA.drew | apply SA.drewN | apply SA.alloc)))
                              clear hK K 
                              try simp only [Act.put, List.setIfInBounds_toArray, List.set_cons_zero, List.set_cons_succ]
                              refine wpAnyH_take (i := 31) (v := ?_) (by simp only [List.getElem?_toArray, List.getElem?_cons_succ, List.getElem?_cons_zero]; first | done | rfl) (by kernel_rfl) (by kernel_rfl) (by kernel_rfl) (fun _ _ _ h => h) (Or.inl ⟨by rfl, ?hy⟩) (by assumption) ?_
                              case hy => (intro w hSw; (try dsimp only at hSw); go_simp; all_goals with_reducible rfl)
                              try simp only [Act.put, List.setIfInBounds_toArray, List.set_cons_zero, List.set_cons_succ]
                              refine wpAnyH_take (i := 32) (v := ?_) (by simp only [List.getElem?_toArray, List.getElem?_cons_succ, List.getElem?_cons_zero]; first | done | rfl) (by kernel_rfl) (by kernel_rfl) (by kernel_rfl) (fun _ _ _ h => h) (Or.inl ⟨by rfl, ?hy⟩) (by assumption) ?_
                              case hy => (intro w hSw; (try dsimp only at hSw); go_simp; all_goals with_reducible rfl)
                              try simp only [Act.put, List.setIfInBounds_toArray, List.set_cons_zero, List.set_cons_succ]
                              refine wpAnyH_take (i := 33) (v := ?_) (by simp only [List.getElem?_toArray, List.getElem?_cons_succ, List.getElem?_cons_zero]; first | done | rfl) (by kernel_rfl) (by kernel_rfl) (by kernel_rfl) (fun _ _ _ h => h) (Or.inl ⟨by rfl, ?hy⟩) (by assumption) ?_
                              case hy => (intro w hSw; (try dsimp only at hSw); go_simp; all_goals with_reducible rfl)
                              try simp only [Act.put, List.setIfInBounds_toArray, List.set_cons_zero, List.set_cons_succ]
                              refine wpAnyH_take (i := 34) (v := ?_) (by simp only [List.getElem?_toArray, List.getElem?_cons_succ, List.getElem?_cons_zero]; first | done | rfl) (by kernel_rfl) (by kernel_rfl) (by kernel_rfl) (fun _ _ _ h => h) (Or.inl ⟨by rfl, ?hy⟩) (by assumption) ?_
                              case hy => (intro w hSw; (try dsimp only at hSw); go_simp; all_goals with_reducible rfl)
                              try simp only [Act.put, List.setIfInBounds_toArray, List.set_cons_zero, List.set_cons_succ]
                              refine wpAnyH_done (by kernel_rfl) ?_ _
                              (refine NoPanic.normal ?_; go_wp2_with fail; go_ret; exact ⟨rfl, HB.out⟩)
                            exact AllReadyH.nil
                          exact AllReadyH.nil
                        exact AllReadyH.nil
                      exact AllReadyH.nil
                    exact AllReadyH.nil
                  exact AllReadyH.nil
                exact AllReadyH.nil
              exact AllReadyH.nil
            refine AllReadyH.cons (by simp only [List.getElem?_toArray, List.getElem?_cons_succ, List.getElem?_cons_zero]; first | done | rfl) (fun K hK => ?_) ?_
            · go_simp
              refine hK.out _ _ ?_ (fun hHeld => ?_)
              · (try dsimp only); (first | (refine SA.cells ?_; repeat (first | exact HS.out | apply SA.drew | apply SA.drewN | apply SA.alloc)))
              clear hK K 
              try simp only [Act.put, List.setIfInBounds_toArray, List.set_cons_zero, List.set_cons_succ]
              refine wpAnyH_ready (rs := [6]) (by kernel_rfl) (by simp) ?_
              refine AllReadyH.cons (by simp only [List.getElem?_toArray, List.getElem?_cons_succ, List.getElem?_cons_zero]; first | done | rfl) (fun K hK => ?_) ?_
              · go_simp
                (first | (go_at_call 12; refine (public_any _ _ (by omega) (by omega)).mono ?_; rintro e w2 ⟨rfl, n2, rfl⟩; (try rw [pub0]); (try rw [pub1])) | (go_at_call 13; refine (check_any _ _ _ _ _ _ (by omega) (by omega) (by omega) (by omega) (by omega) (by omega) (by first | exact rd_marked _ 109 _ | exact rd_marked _ 110 _ | exact rd_drewN (rd_marked _ 109 _) _ | exact rd_drewN (rd_marked _ 110 _) _) (by decide)).mono ?_; rintro e w2 ⟨rfl, hb2⟩; (first | rw [HM.out] | rw [HN.out] | rw [unit0]); have HB' := Lib.hid (bl_bl (by repeat (first | exact HB.out | apply bl_drew | apply bl_drewN | apply bl_alloc)) hb2); have HS' := Lib.hid (SA.below (by repeat (first | exact HS.out | apply SA.drew | apply SA.drewN | apply SA.alloc)) hb2); clear hb2; have HB := HB'; have HS := HS'; clear HB' HS') | (go_at_call 14; refine (put_any _ _ _ (by omega) (by omega) (by omega) (by omega)).mono ?_; rintro e w2 ⟨u2, rfl, hu2, hb2⟩; obtain ⟨a2, c2, rfl⟩ := hu2.rd.shape; rw [putF_len]; have HB' := Lib.hid (bl_bl (by repeat (first | exact HB.out | apply bl_drew | apply bl_drewN | apply bl_alloc)) hb2); have HS' := Lib.hid (SA.below (by repeat (first | exact HS.out | apply SA.drew | apply SA.drewN | apply SA.alloc)) hb2); clear hb2 hu2; have HB := HB'; have HS := HS'; clear HB' HS'))
                refine hK.out _ _ ?_ (fun hHeld => ?_)
                · (try dsimp only); (first | (refine SA.cells ?_; repeat (first | exact HS.out | apply SA.drew | apply SA.drewN | apply SA.alloc)))
                clear hK K 
                try simp only [Act.put, List.setIfInBounds_toArray, List.set_cons_zero, List.set_cons_succ]
                refine wpAnyH_ready (rs := [10]) (by kernel_rfl) (by simp) ?_
                refine AllReadyH.cons (by simp only [List.getElem?_toArray, List.getElem?_cons_succ, List.getElem?_cons_zero]; first | done | rfl) (fun K hK => ?_) ?_
                · go_simp
                  (first | (go_at_call 12; refine (public_any _ _ (by omega) (by omega)).mono ?_; rintro e w2 ⟨rfl, n2, rfl⟩; (try rw [pub0]); (try rw [pub1])) | (go_at_call 13; refine (check_any _ _ _ _ _ _ (by omega) (by omega) (by omega) (by omega) (by omega) (by omega) (by first | exact rd_marked _ 109 _ | exact rd_marked _ 110 _ | exact rd_drewN (rd_marked _ 109 _) _ | exact rd_drewN (rd_marked _ 110 _) _) (by decide)).mono ?_; rintro e w2 ⟨rfl, hb2⟩; (first | rw [HM.out] | rw [HN.out] | rw [unit0]); have HB' := Lib.hid (bl_bl (by repeat (first | exact HB.out | apply bl_drew | apply bl_drewN | apply bl_alloc)) hb2); have HS' := Lib.hid (SA.below (by repeat (first | exact HS.out | apply SA.drew | apply SA.drewN | apply SA.alloc)) hb2); clear hb2; have HB := HB'; have HS := HS'; clear HB' HS') | (go_at_call 14; refine (put_any _ _ _ (by omega) (by omega) (by omega) (by omega)).mono ?_; rintro e w2 ⟨u2, rfl, hu2, hb2⟩; obtain ⟨a2, c2, rfl⟩ := hu2.rd.shape; rw [putF_len]; have HB' := Lib.hid (bl_bl (by repeat (first | exact HB.out | apply bl_drew | apply bl_drewN | apply bl_alloc)) hb2); have HS' := Lib.hid (SA.below (by repeat (first | exact HS.out | apply SA.drew | apply SA.drewN | apply SA.alloc)) hb2); clear hb2 hu2; have HB := HB'; have HS := HS'; clear HB' HS'))
                  refine hK.out _ _ ?_ (fun hHeld => ?_)
                  · (try dsimp only); (first | (refine SA.cells ?_; repeat (first | exact HS.out | apply SA.drew | apply SA.drewN | apply SA.alloc)))
                  clear hK K 
                  try simp only [Act.put, List.setIfInBounds_toArray, List.set_cons_zero, List.set_cons_succ]
                  refine wpAnyH_take (i := 11) (v := ?_) (by simp only [List.getElem?_toArray, List.getElem?_cons_succ, List.getElem?_cons_zero]; first | done | rfl) (by kernel_rfl) (by kernel_rfl) (by kernel_rfl) (fun _ _ _ h => h) (Or.inl ⟨by rfl, ?hy⟩) (by assumption) ?_
                  case hy => (intro w hSw; (try dsimp only at hSw); go_simp; all_goals with_reducible rfl)
                  try simp only [Act.put, List.setIfInBounds_toArray, List.set_cons_zero, List.set_cons_succ]
                  refine wpAnyH_take (i := 12) (v := ?_) (by simp only [List.getElem?_toArray, List.getElem?_cons_succ, List.getElem?_cons_zero]; first | done | rfl) (by kernel_rfl) (by kernel_rfl) (by kernel_rfl) (fun _ _ _ h => h) (Or.inl ⟨by rfl, ?hy⟩) (by assumption) ?_
                  case hy => (intro w hSw; (try dsimp only at hSw); go_simp; all_goals with_reducible rfl)
                  try simp only [Act.put, List.setIfInBounds_toArray, List.set_cons_zero, List.set_cons_succ]
                  refine wpAnyH_take (i := 13) (v := ?_) (by simp only [List.getElem?_toArray, List.getElem?_cons_succ, List.getElem?_cons_zero]; first | done | rfl) (by kernel_rfl) (by kernel_rfl) (by kernel_rfl) (fun _ _ _ h => h) (Or.inl ⟨by rfl, ?hy⟩) (by assumption) ?_
                  case hy => (intro w hSw; (try dsimp only at hSw); go_simp; all_goals with_reducible rfl)
                  try simp only [Act.put, List.setIfInBounds_toArray, List.set_cons_zero, List.set_cons_succ]
                  refine wpAnyH_take (i := 16) (v := ?_) (by simp only [List.getElem?_toArray, List.getElem?_cons_succ, List.getElem?_cons_zero]; first | done | rfl) (by kernel_rfl) (by kernel_rfl) (by kernel_rfl) (fun _ _ _ h => h) (Or.inl ⟨by rfl, ?hy⟩) (by assumption) ?_
                  case hy => (intro w hSw; (try dsimp only at hSw); go_simp; all_goals with_reducible rfl)
                  try simp only [Act.put, List.setIfInBounds_toArray, List.set_cons_zero, List.set_cons_succ]
                  refine wpAnyH_ready (rs := [14]) (by kernel_rfl) (by simp) ?_
                  refine AllReadyH.cons (by simp only [List.getElem?_toArray, List.getElem?_cons_succ, List.getElem?_cons_zero]; first | done | rfl) (fun K hK => ?_) ?_
                  · go_simp
                    refine hK.out _ _ ?_ (fun hHeld => ?_)
                    · (try dsimp only); (first | (refine SA.cells ?_; repeat (first | exact HS.out | apply SA.drew | apply SA.drewN | apply SA.alloc)))
                    clear hK K 
                    try simp only [Act.put, List.setIfInBounds_toArray, List.set_cons_zero, List.set_cons_succ]
                    refine wpAnyH_ready (rs := [15]) (by kernel_rfl) (by simp) ?_
                    refine AllReadyH.cons (by simp only [List.getElem?_toArray, List.getElem?_cons_succ, List.getElem?_cons_zero]; first | done | rfl) (fun K hK => ?_) ?_
                    · go_simp
                      refine hK.out _ _ ?_ (fun hHeld => ?_)
                      · (try dsimp only); (first | (refine SA.cells ?_; repeat (first | exact HS.out | apply SA.drew | apply SA.drewN | apply SA.alloc)))
                      clear hK K 
                      try simp only [Act.put, List.setIfInBounds_toArray, List.set_cons_zero, List.set_cons_succ]
                      refine wpAnyH_ready (rs := [17]) (by kernel_rfl) (by simp) ?_
                      refine AllReadyH.cons (by simp only [List.getElem?_toArray, List.getElem?_cons_succ, List.getElem?_cons_zero]; first | done | rfl) (fun K hK => ?_) ?_
                      · go_simp
                        (first | (go_at_call 12; refine (public_any _ _ (by omega) (by omega)).mono ?_; rintro e w2 ⟨rfl, n2, rfl⟩; (try rw [pub0]); (try rw [pub1])) | (go_at_call 13; refine (check_any _ _ _ _ _ _ (by omega) (by omega) (by omega) (by omega) (by omega) (by omega) (by first | exact rd_marked _ 109 _ | exact rd_marked _ 110 _ | exact rd_drewN (rd_marked _ 109 _) _ | exact rd_drewN (rd_marked _ 110 _) _) (by decide)).mono ?_; rintro e w2 ⟨rfl, hb2⟩; (first | rw [HM.out] | rw [HN.out] | rw [unit0]); have HB' := Lib.hid (bl_bl (by repeat (first | exact HB.out | apply bl_drew | apply bl_drewN | apply bl_alloc)) hb2); have HS' := Lib.hid (SA.below (by repeat (first | exact HS.out | apply SA.drew | apply SA.drewN | apply SA.alloc)) hb2); clear hb2; have HB := HB'; have HS := HS'; clear HB' HS') | (go_at_call 14; refine (put_any _ _ _ (by omega) (by omega) (by omega) (by omega)).mono ?_; rintro e w2 ⟨u2, rfl, hu2, hb2⟩; obtain ⟨a2, c2, rfl⟩ := hu2.rd.shape; rw [putF_len]; have HB' := Lib.hid (bl_bl (by repeat (first | exact HB.out | apply bl_drew | apply bl_drewN | apply bl_alloc)) hb2); have HS' := Lib.hid (SA.below (by repeat (first | exact HS.out | apply SA.drew | apply SA.drewN | apply SA.alloc)) hb2); clear hb2 hu2; have HB := HB'; have HS := HS'; clear HB' HS'))
                        refine hK.out _ _ ?_ (fun hHeld => ?_)
                        · (try dsimp only); (first | (refine SA.cells ?_; repeat (first | exact HS.out | apply SA.drew | apply SA.drewN | apply SA.alloc)))
                        clear hK K 
                        try simp only [Act.put, List.setIfInBounds_toArray, List.set_cons_zero, List.set_cons_succ]
                        refine wpAnyH_take (i := 18) (v := ?_) (by simp only [List.getElem?_toArray, List.getElem?_cons_succ, List.getElem?_cons_zero]; first | done | rfl) (by kernel_rfl) (by kernel_rfl) (by kernel_rfl) (fun _ _ _ h => h) (Or.inl ⟨by rfl, ?hy⟩) (by assumption) ?_
                        case hy => (intro w hSw; (try dsimp only at hSw); go_simp; all_goals with_reducible rfl)
                        try simp only [Act.put, List.setIfInBounds_toArray, List.set_cons_zero, List.set_cons_succ]
                        refine wpAnyH_take (i := 19) (v := ?_) (by simp only [List.getElem?_toArray, List.getElem?_cons_succ, List.getElem?_cons_zero]; first | done | rfl) (by kernel_rfl) (by kernel_rfl) (by kernel_rfl) (fun _ _ _ h => h) (Or.inl ⟨by rfl, ?hy⟩) (by assumption) ?_
                        case hy => (intro w hSw; (try dsimp only at hSw); go_simp; all_goals with_reducible rfl)
                        try simp only [Act.put, List.setIfInBounds_toArray, List.set_cons_zero, List.set_cons_succ]
                        refine wpAnyH_take (i := 20) (v := ?_) (by simp only [List.getElem?_toArray, List.getElem?_cons_succ, List.getElem?_cons_zero]; first | done | rfl) (by kernel_rfl) (by kernel_rfl) (by kernel_rfl) (fun _ _ _ h => h) (Or.inl ⟨by rfl, ?hy⟩) (by assumption) ?_
                        case hy => (intro w hSw; (try dsimp only at hSw); go_simp; all_goals with_reducible rfl)
                        try simp only [Act.put, List.setIfInBounds_toArray, List.set_cons_zero, List.set_cons_succ]
                        refine wpAnyH_ready (rs := [21]) (by kernel_rfl) (by simp) ?_
                        refine AllReadyH.cons (by simp only [List.getElem?_toArray, List.getElem?_cons_succ, List.getElem?_cons_zero]; first | done | rfl) (fun K hK => ?_) ?_
                        · go_simp
                          (first | (go_at_call 12; refine (public_any _ _ (by omega) (by omega)).mono ?_; rintro e w2 ⟨rfl, n2, rfl⟩; (try rw [pub0]); (try rw [pub1])) | (go_at_call 13; refine (check_any _ _ _ _ _ _ (by omega) (by omega) (by omega) (by omega) (by omega) (by omega) (by first | exact rd_marked _ 109 _ | exact rd_marked _ 110 _ | exact rd_drewN (rd_marked _ 109 _) _ | exact rd_drewN (rd_marked _ 110 _) _) (by decide)).mono ?_; rintro e w2 ⟨rfl, hb2⟩; (first | rw [HM.out] | rw [HN.out] | rw [unit0]); have HB' := Lib.hid (bl_bl (by repeat (first | exact HB.out | apply bl_drew | apply bl_drewN | apply bl_alloc)) hb2); have HS' := Lib.hid (SA.below (by repeat (first | exact HS.out | apply SA.drew | apply SA.drewN | apply SA.alloc)) hb2); clear hb2; have HB := HB'; have HS := HS'; clear HB' HS') | (go_at_call 14; refine (put_any _ _ _ (by omega) (by omega) (by omega) (by omega)).mono ?_; rintro e w2 ⟨u2, rfl, hu2, hb2⟩; obtain ⟨a2, c2, rfl⟩ := hu2.rd.shape; rw [putF_len]; have HB' := Lib.hid (bl_bl (by repeat (first | exact HB.out | apply bl_drew | apply bl_drewN | apply bl_alloc)) hb2); have HS' := Lib.hid (SA.below (by repeat (first | exact HS.out | apply SA.drew | apply SA.drewN | apply SA.alloc)) hb2); clear hb2 hu2; have HB := HB'; have HS := HS'; clear HB' HS'))
                          refine hK.out _ _ ?_ (fun hHeld => ?_)
                          · (try dsimp only); (first | (refine SA.cells ?_; repeat (first | exact HS.out | apply SA.drew | apply SA.drewN | apply SA.alloc)))
                          clear hK K 
                          try simp only [Act.put, List.setIfInBounds_toArray, List.set_cons_zero, List.set_cons_succ]
                          refine wpAnyH_take (i := 22) (v := ?_) (by simp only [List.getElem?_toArray, List.getElem?_cons_succ, List.getElem?_cons_zero]; first | done | rfl) (by kernel_rfl) (by kernel_rfl) (by kernel_rfl) (fun _ _ _ h => h) (Or.inl ⟨by rfl, ?hy⟩) (by assumption) ?_
                          case hy => (intro w hSw; (try dsimp only at hSw); go_simp; all_goals with_reducible rfl)
                          try simp only [Act.put, List.setIfInBounds_toArray, List.set_cons_zero, List.set_cons_succ]
                          refine wpAnyH_take (i := 23) (v := ?_) (by simp only [List.getElem?_toArray, List.getElem?_cons_succ, List.getElem?_cons_zero]; first | done | rfl) (by kernel_rfl) (by kernel_rfl) (by kernel_rfl) (fun _ _ _ h => h) (Or.inl ⟨by rfl, ?hy⟩) (by assumption) ?_
                          case hy => (intro w hSw; (try dsimp only at hSw); go_simp; all_goals with_reducible rfl)
                          try simp only [Act.put, List.setIfInBounds_toArray, List.set_cons_zero, List.set_cons_succ]
                          refine wpAnyH_take (i := 24) (v := ?_) (by simp only [List.getElem?_toArray, List.getElem?_cons_succ, List.getElem?_cons_zero]; first | done | rfl) (by kernel_rfl) (by kernel_rfl) (by kernel_rfl) (fun _ _ _ h => h) (Or.inl ⟨by rfl, ?hy⟩) (by assumption) ?_
                          case hy => (intro w hSw; (try dsimp only at hSw); go_simp; all_goals with_reducible rfl)
                          try simp only [Act.put, List.setIfInBounds_toArray, List.set_cons_zero, List.set_cons_succ]
                          refine wpAnyH_ready (rs := [25]) (by kernel_rfl) (by simp) ?_
                          refine AllReadyH.cons (by simp only [List.getElem?_toArray, List.getElem?_cons_succ, List.getElem?_cons_zero]; first | done | rfl) (fun K hK => ?_) ?_
                          · go_simp
                            (first | (go_at_call 12; refine (public_any _ _ (by omega) (by omega)).mono ?_; rintro e w2 ⟨rfl, n2, rfl⟩; (try rw [pub0]); (try rw [pub1])) | (go_at_call 13; refine (check_any _ _ _ _ _ _ (by omega) (by omega) (by omega) (by omega) (by omega) (by omega) (by first | exact rd_marked _ 109 _ | exact rd_marked _ 110 _ | exact rd_drewN (rd_marked _ 109 _) _ | exact rd_drewN (rd_marked _ 110 _) _) (by decide)).mono ?_; rintro e w2 ⟨rfl, hb2⟩; (first | rw [HM.out] | rw [HN.out] | rw [unit0]); have HB' := Lib.hid (bl_bl (by repeat (first | exact HB.out | apply bl_drew | apply bl_drewN | apply bl_alloc)) hb2); have HS' := Lib.hid (SA.below (by repeat (first | exact HS.out | apply SA.drew | apply SA.drewN | apply SA.alloc)) hb2); clear hb2; have HB := HB'; have HS := HS'; clear HB' HS') | (go_at_call 14; refine (put_any _ _ _ (by omega) (by omega) (by omega) (by omega)).mono ?_; rintro e w2 ⟨u2, rfl, hu2, hb2⟩; obtain ⟨a2, c2, rfl⟩ := hu2.rd.shape; rw [putF_len]; have HB' := Lib.hid (bl_bl (by repeat (first | exact HB.out | apply bl_drew | apply bl_drewN | apply bl_alloc)) hb2); have HS' := Lib.hid (SA.below (by repeat (first | exact HS.out | apply SA.drew | apply SA.drewN | apply SA.alloc)) hb2); clear hb2 hu2; have HB := HB'; have HS := HS'; clear HB' HS'))
                            refine hK.out _ _ ?_ (fun hHeld => ?_)
                            · (try dsimp only); (first | (refine SA.cells ?_; repeat (first | exact HS.out | apply SA.drew | apply SA.drewN | apply SA.alloc)))
                            clear hK K 
                            try simp only [Act.put, List.setIfInBounds_toArray, List.set_cons_zero, List.set_cons_succ]
                            refine wpAnyH_take (i := 26) (v := ?_) (by simp only [List.getElem?_toArray, List.getElem?_cons_succ, List.getElem?_cons_zero]; first | done | rfl) (by kernel_rfl) (by kernel_rfl) (by kernel_rfl) (fun _ _ _ h => h) (Or.inl ⟨by rfl, ?hy⟩) (by assumption) ?_
                            case hy => (intro w hSw; (try dsimp only at hSw); go_simp; all_goals with_reducible rfl)
                            try simp only [Act.put, List.setIfInBounds_toArray, List.set_cons_zero, List.set_cons_succ]
                            refine wpAnyH_take (i := 27) (v := ?_) (by simp only [List.getElem?_toArray, List.getElem?_cons_succ, List.getElem?_cons_zero]; first | done | rfl) (by kernel_rfl) (by kernel_rfl) (by kernel_rfl) (fun _ _ _ h => h) (Or.inl ⟨by rfl, ?hy⟩) (by assumption) ?_
                            case hy => (intro w hSw; (try dsimp only at hSw); go_simp; all_goals with_reducible rfl)
                            try simp only [Act.put, List.setIfInBounds_toArray, List.set_cons_zero, List.set_cons_succ]
                            refine wpAnyH_take (i := 28) (v := ?_) (by simp only [List.getElem?_toArray, List.getElem?_cons_succ, List.getElem?_cons_zero]; first | done | rfl) (by kernel_rfl) (by kernel_rfl) (by kernel_rfl) (fun _ _ _ h => h) (Or.inl ⟨by rfl, ?hy⟩) (by assumption) ?_
                            case hy => (intro w hSw; (try dsimp only at hSw); go_simp; all_goals with_reducible rfl)
                            try simp only [Act.put, List.setIfInBounds_toArray, List.set_cons_zero, List.set_cons_succ]
                            refine wpAnyH_take (i := 29) (v := ?_) (by simp only [List.getElem?_toArray, List.getElem?_cons_succ, List.getElem?_cons_zero]; first | done | rfl) (by kernel_rfl) (by kernel_rfl) (by kernel_rfl) (fun _ _ _ h => h) (Or.inl ⟨by rfl, ?hy⟩) (by assumption) ?_
                            case hy => (intro w hSw; (try dsimp only at hSw); go_simp; all_goals with_reducible rfl)
                            try simp only [Act.put, List.setIfInBounds_toArray, List.set_cons_zero, List.set_cons_succ]
                            refine wpAnyH_ready (rs := [30]) (by kernel_rfl) (by simp) ?_
                            refine AllReadyH.cons (by simp only [List.getElem?_toArray, List.getElem?_cons_succ, List.getElem?_cons_zero]; first | done | rfl) (fun K hK => ?_) ?_
                            · go_simp
                              (first | (go_at_call 12; refine (public_any _ _ (by omega) (by omega)).mono ?_; rintro e w2 ⟨rfl, n2, rfl⟩; (try rw [pub0]); (try rw [pub1])) | (go_at_call 13; refine (check_any _ _ _ _ _ _ (by omega) (by omega) (by omega) (by omega) (by omega) (by omega) (by first | exact rd_marked _ 109 _ | exact rd_marked _ 110 _ | exact rd_drewN (rd_marked _ 109 _) _ | exact rd_drewN (rd_marked _ 110 _) _) (by decide)).mono ?_; rintro e w2 ⟨rfl, hb2⟩; (first | rw [HM.out] | rw [HN.out] | rw [unit0]); have HB' := Lib.hid (bl_bl (by repeat (first | exact HB.out | apply bl_drew | apply bl_drewN | apply bl_alloc)) hb2); have HS' := Lib.hid (SA.below (by repeat (first | exact HS.out | apply SA.drew | apply SA.drewN | apply SA.alloc)) hb2); clear hb2; have HB := HB'; have HS := HS'; clear HB' HS') | (go_at_call 14; refine (put_any _ _ _ (by omega) (by omega) (by omega) (by omega)).mono ?_; rintro e w2 ⟨u2, rfl, hu2, hb2⟩; obtain ⟨a2, c2, rfl⟩ := hu2.rd.shape; rw [putF_len]; have HB' := Lib.hid (bl_bl (by repeat (first | exact HB.out | apply bl_drew | apply bl_drewN | apply bl_alloc)) hb2); have HS' := Lib.hid (SA.below (by repeat (first | exact HS.out | apply SA.drew | apply SA.drewN | apply SA.alloc)) hb2); clear hb2 hu2; have HB := HB'; have HS := HS'; clear HB' HS'))
                              refine hK.out _ _ ?_ (fun hHeld => ?_)
                              · (try dsimp only); (first | (refine SA.cells ?_; repeat (first | exact HS.out | apply SA.drew | apply SA.drewN | apply SA.alloc)))
                              clear hK K 
                              try simp only [Act.put, List.setIfInBounds_toArray, List.set_cons_zero, List.set_cons_succ]
                              refine wpAnyH_take (i := 31) (v := ?_) (by simp only [List.getElem?_toArray, List.getElem?_cons_succ, List.getElem?_cons_zero]; first | done | rfl) (by kernel_rfl) (by kernel_rfl) (by kernel_rfl) (fun _ _ _ h => h) (Or.inl ⟨by rfl, ?hy⟩) (by assumption) ?_
                              case hy => (intro w hSw; (try dsimp only at hSw); go_simp; all_goals with_reducible rfl)
                              try simp only [Act.put, List.setIfInBounds_toArray, List.set_cons_zero, List.set_cons_succ]
                              refine wpAnyH_take (i := 32) (v := ?_) (by simp only [List.getElem?_toArray, List.getElem?_cons_succ, List.getElem?_cons_zero]; first | done | rfl) (by kernel_rfl) (by kernel_rfl) (by kernel_rfl) (fun _ _ _ h => h) (Or.inl ⟨by rfl, ?hy⟩) (by assumption) ?_
                              case hy => (intro w hSw; (try dsimp only at hSw); go_simp; all_goals with_reducible rfl)
                              try simp only [Act.put, List.setIfInBounds_toArray, List.set_cons_zero, List.set_cons_succ]
                              refine wpAnyH_take (i := 33) (v := ?_) (by simp only [List.getElem?_toArray, List.getElem?_cons_succ, List.getElem?_cons_zero]; first | done | rfl) (by kernel_rfl) (by kernel_rfl) (by kernel_rfl) (fun _ _ _ h => h) (Or.inl ⟨by rfl, ?hy⟩) (by assumption) ?_
                              case hy => (intro w hSw; (try dsimp only at hSw); go_simp; all_goals with_reducible rfl)
                              try simp only [Act.put, List.setIfInBounds_toArray, List.set_cons_zero, List.set_cons_succ]
                              refine wpAnyH_take (i := 34) (v := ?_) (by simp only [List.getElem?_toArray, List.getElem?_cons_succ, List.getElem?_cons_zero]; first | done | rfl) (by kernel_rfl) (by kernel_rfl) (by kernel_rfl) (fun _ _ _ h => h) (Or.inl ⟨by rfl, ?hy⟩) (by assumption) ?_
                              case hy => (intro w hSw; (try dsimp only at hSw); go_simp; all_goals with_reducible rfl)
                              try simp only [Act.put, List.setIfInBounds_toArray, List.set_cons_zero, List.set_cons_succ]
                              refine wpAnyH_done (by kernel_rfl) ?_ _
                              (refine NoPanic.normal ?_; go_wp2_with fail; go_ret; exact ⟨rfl, HB.out⟩)
                            exact AllReadyH.nil
                          exact AllReadyH.nil
                        exact AllReadyH.nil
                      exact AllReadyH.nil
                    exact AllReadyH.nil
                  exact AllReadyH.nil
                exact AllReadyH.nil
              exact AllReadyH.nil
            exact AllReadyH.nil
          exact AllReadyH.nil
        exact AllReadyH.nil
      exact AllReadyH.nil
    exact AllReadyH.nil
  exact AllReadyH.nil
end Go.Proofs.Ytebepjgopmaogaa
