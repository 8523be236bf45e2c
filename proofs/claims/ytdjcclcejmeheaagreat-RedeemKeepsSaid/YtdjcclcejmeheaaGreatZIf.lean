import Derived.Test.YtdjcclcejmeheaaGreatZIe
import Derived.Test.YtdjcclcejmeheaaGreatZEv
/-
  The reference's batches.
-/
namespace Go.Proofs.YtdjcclcejmeheaaGreat
set_option linter.unusedVariables false
set_option linter.unusedSimpArgs false
open Go.RowKit Pl
set_option maxRecDepth 100000
set_option maxHeartbeats 3200000
theorem ap27 : apt Tryz.prog 27 = some (37, 4, 40) := by kernel_rfl
theorem et63 : elt Tryz.prog 63 = some (35, 3) := by kernel_rfl
theorem add_pc (l : List Kn) (ep : Int) (b : List En) (hl : l.length ≤ 1048576) (hb : b.length ≤ 1048576) : PC Tryz.prog 109 [slT Kn.dv 4 l, .v (.int .i64 ep), slT En.dv 3 b] (.tp [slT Kn.dv 4 (addR l ep b).1, .v (.bool (addR l ep b).2)]) := by
 have hl' : l.length ≤ 140737488355328 := by omega
 have hb' : b.length ≤ 140737488355328 := by omega
 refine PC.enter (fn := Tryz.f109) Tryz.func109 rfl Tryz.ntmps109 rfl (fun w0 K0 => .w ?_)
 refine .q 4 1 rfl rfl (fun h1 => ?_) (fun h1 => ?_)
 ·skip
  have hep : ep < 1 := of_decide_eq_true h1
  have e : addR l ep b = (l, false) := by unfold addR; rw [if_pos (.inl hep)]
  rw [e]
  exact .z 3 1 rfl (TE.rettc rfl rfl rfl)
 ·skip
  have hep : ¬ ep < 1 := of_decide_eq_false h1
  refine .lo (T := Nat) 1 1 rfl (fun k => k ≤ l.length ∧ ∀ j (hj : j < l.length), j < k → ¬ ep ≤ l[j].ep) (fun k => l.length - k) [0, 1, 2] [] (fun k => [(8, .f (.v (.int .i64 k)))]) (fun k => []) (0) rfl rfl ⟨Nat.zero_le _, fun j _ h => absurd h (Nat.not_lt_zero j)⟩ rfl rfl rfl (fun k hI => ?_)
  obtain ⟨hk, hno⟩ := hI
  refine .q 4 1 rfl rfl (fun h2 => ?_) (fun h2 => ?_)
  ·skip
   have hlt : k < l.length := by have q : (k : Int) < (l.length : Int) := of_decide_eq_true h2; omega
   refine .t 2 1 rfl rfl (.idx (l[k]) rfl rfl rfl rfl et27 (fun _ => rfl) (Int.natCast_nonneg k) (get_nat hlt)) ?_
   refine .q 4 1 rfl rfl (fun h3 => ?_) (fun h3 => ?_)
   ·skip
    have hep2 : ep ≤ l[k].ep := of_decide_eq_true h3
    have e : addR l ep b = (l, false) := by unfold addR; rw [if_pos (.inr ⟨l[k], List.getElem_mem hlt, hep2⟩)]
    rw [e]
    exact .z 3 1 rfl (TE.rettc rfl rfl rfl)
   ·skip
    have hep2 : ¬ ep ≤ l[k].ep := of_decide_eq_false h3
    refine .t 1 1 rfl rfl (.bv (.int .i64 ((k + 1 : Nat) : Int)) rfl (congrArg _ (wrap_succ hlt hl'))) ?_
    exact .rd 1 1 id (fun _ _ e => e) rfl (k + 1) ⟨hlt, fun j hj hjk => (Nat.lt_or_eq_of_le (Nat.le_of_lt_succ hjk)).elim (hno j hj) (fun e => by subst e; exact hep2)⟩ (by omega) rfl rfl rfl
  ·skip
   have hge : k = l.length := by have q : ¬ ((k : Int) < (l.length : Int)) := of_decide_eq_false h2; omega
   have hnone : ¬ ∃ q ∈ l, ep ≤ q.ep := by rintro ⟨q, hq, hqe⟩; obtain ⟨j, hj, rfl⟩ := List.getElem_of_mem hq; exact hno j hj (by omega) hqe
   have hgo : addGo l ep [] b l = addR l ep b := by unfold addR; rw [if_neg (fun q => q.elim hep hnone)]
   refine .t 1 1 rfl rfl (.append0 1 rfl rfl rfl ap27 rfl rfl trivial (flat_one (fun _ => rfl) l) (by omega) (by omega)) ?_
   refine .g 1 2 rfl ?_
   refine TE.frz 9 (slT Kn.dv 4 l) rfl rfl (flat_length (enc := Kn.dv) (fun _ => rfl) l) rfl ?_
   refine .lo (T := Nat × List Kn) 1 2 rfl (fun x => x.1 ≤ b.length ∧ x.2.length = l.length + x.1 ∧ addGo l ep (b.take x.1) (b.drop x.1) x.2 = addR l ep b) (fun x => b.length - x.1) [0, 1, 2] [] (fun x => [(9, .d (slT Kn.dv 4 x.2)), (10, .f (.v (.int .i64 x.1)))]) (fun x => []) ((0, l)) rfl rfl ⟨Nat.zero_le _, rfl, hgo⟩ rfl rfl rfl (fun x hI => ?_)
   obtain ⟨k, out⟩ := x
   obtain ⟨hx1, hx2, hx3⟩ := hI
   have hx1 : k ≤ b.length := hx1
   have hx2 : out.length = l.length + k := hx2
   have hx3 : addGo l ep (b.take k) (b.drop k) out = addR l ep b := hx3
   refine .q 4 2 rfl rfl (fun h4 => ?_) (fun h4 => ?_)
   ·skip
    have hkb : k < b.length := by have q : (k : Int) < (b.length : Int) := of_decide_eq_true h4; omega
    refine .t 2 2 rfl rfl (.idx (b[k]) rfl rfl rfl rfl et63 (fun _ => rfl) (Int.natCast_nonneg k) (get_nat hkb)) ?_
    refine .t 6 2 rfl rfl (.cf (rlatest_any l b[k].nm (by omega)) rfl) ?_
    refine .t 7 3 rfl rfl (.cf (emay_pf b[k]) rfl) ?_
    refine .g 2 4 rfl ?_
    refine .case 55 rfl (fun h5 => ?_) (fun h5 => ?_)
    ·skip
     have hr : rightE b[k].nm b[k].ver b[k].key = false := by simpa using h5
     have hbad : ¬ (rightE b[k].nm b[k].ver b[k].key = true ∧ b[k].ver = i64w ((latR l b[k].nm).1.ver + 1) ∧ (∀ d ∈ b.take k, ¬ d.nm = b[k].nm)) := fun q => by rw [hr] at q; exact absurd q.1 (by simp)
     have e : addR l ep b = (l, false) := by rw [← hx3, addGo_stop hkb (fun q => hbad q)]
     rw [e]
     exact .z 12 4 rfl (TE.rettc rfl rfl rfl)
    ·skip
     have hr : rightE b[k].nm b[k].ver b[k].key = true := by simpa using h5
     refine .q 8 4 rfl rfl (fun h7 => ?_) (fun h7 => ?_)
     ·skip
      have hbad : ¬ (rightE b[k].nm b[k].ver b[k].key = true ∧ b[k].ver = i64w ((latR l b[k].nm).1.ver + 1) ∧ (∀ d ∈ b.take k, ¬ d.nm = b[k].nm)) := fun q => by have h0 : (!decide (b[k].ver = i64w ((latR l b[k].nm).1.ver + 1))) = true := h7; rw [decide_eq_true q.2.1] at h0; simp at h0
      have e : addR l ep b = (l, false) := by rw [← hx3, addGo_stop hkb (fun q => hbad q)]
      rw [e]
      exact .z 3 4 rfl (TE.rettc rfl rfl rfl)
     ·skip
      have hver : b[k].ver = i64w ((latR l b[k].nm).1.ver + 1) := by have h0 : (!decide (b[k].ver = i64w ((latR l b[k].nm).1.ver + 1))) = false := h7; simpa using h0
      refine .lo (T := Nat) 1 4 rfl (fun j => j ≤ k ∧ ∀ i (hi : i < b.length), i < j → ¬ b[i].nm = b[k].nm) (fun j => k - j) [0, 1, 2] [] (fun j => [(9, .d (slT Kn.dv 4 out)), (10, .f (.v (.int .i64 k))), (11, .ptr 2 0), (14, .f (.v (.int .i64 j)))]) (fun j => [(2, .box 35 b[k].dv)]) (0) rfl rfl ⟨Nat.zero_le _, fun j _ h => absurd h (Nat.not_lt_zero j)⟩ rfl rfl rfl (fun j hI => ?_)
      obtain ⟨hj, hnot⟩ := hI
      refine .q 3 4 rfl rfl (fun h8 => ?_) (fun h8 => ?_)
      ·skip
       have hlj : j < k := by have q : (j : Int) < (k : Int) := of_decide_eq_true h8; omega
       refine .d 0 4 rfl ?_
       refine .v 2 4 [] rfl rfl (fun _ _ => .idx (b[j]) rfl rfl rfl rfl et63 (fun _ => rfl) (Int.natCast_nonneg j) (get_nat (Nat.lt_trans hlj hkb))) ?_
       refine .y 5 4 rfl (by kernel_rfl) ?_
       refine .q 0 4 rfl rfl (fun h9 => ?_) (fun h9 => ?_)
       ·skip
        have hsame : b[j].nm = b[k].nm := of_decide_eq_true h9
        have e : addR l ep b = (l, false) := by rw [← hx3, addGo_stop hkb (fun q => q.2.2 b[j] (mem_take_of _ hlj) hsame)]
        rw [e]
        exact .z 3 4 rfl (TE.rettc rfl rfl rfl)
       ·skip
        have hsame : ¬ b[j].nm = b[k].nm := of_decide_eq_false h9
        refine .t 1 4 rfl rfl (.bv (.int .i64 ((j + 1 : Nat) : Int)) rfl (congrArg _ (wrap_succ (Nat.lt_trans hlj hkb) hb'))) ?_
        exact .rd 1 4 id (fun _ _ e => e) rfl (j + 1) ⟨hlj, fun i hi hij => (Nat.lt_or_eq_of_le (Nat.le_of_lt_succ hij)).elim (hnot i hi) (fun e => by subst e; exact hsame)⟩ (by omega) rfl rfl rfl
      ·skip
       have hge : j = k := by have q : ¬ ((j : Int) < (k : Int)) := of_decide_eq_false h8; omega
       refine .lo (T := Nat) 1 4 rfl (fun q => q ≤ out.length ∧ ∀ i (hi : i < out.length), i < q → lessK out[i] b[k] = true) (fun q => out.length - q) [0, 1, 2] [] (fun q => [(9, .d (slT Kn.dv 4 out)), (10, .f (.v (.int .i64 k))), (11, .ptr 2 0), (15, .f (.v (.int .i64 q)))]) (fun q => [(2, .box 35 b[k].dv)]) (0) rfl rfl ⟨Nat.zero_le _, fun j _ h => absurd h (Nat.not_lt_zero j)⟩ rfl rfl rfl (fun q hI => ?_)
       rw [hge] at hnot
       obtain ⟨hqo, hqa⟩ := hI
       by_cases hq : q < out.length
       ·skip
        by_cases hle : Op.bytesLess out[q].nm b[k].nm = true
        ·skip
         have hin : lessK out[q] b[k] = true := by unfold lessK; rw [hle]; rfl
         refine .d 0 4 rfl ?_
         refine .v 3 4 [] rfl rfl (fun _ _ => .bv (.bool true) rfl (congrArg Value.bool (decide_eq_true (by omega)))) ?_
         refine .v 3 4 [] rfl rfl (fun _ _ => .idx (out[q]) rfl rfl rfl rfl et27 (fun _ => rfl) (Int.natCast_nonneg q) (get_nat hq)) ?_
         refine .v 5 4 [] rfl rfl (fun _ _ => .bv (.bool true) rfl (congrArg Value.bool hle)) ?_
         refine .y 23 4 rfl (by kernel_rfl) ?_
         refine .t 2 4 rfl rfl (.bv (.int .i64 ((q + 1 : Nat) : Int)) rfl (congrArg _ (wrap_succ hq (by omega)))) ?_
         exact .rd 1 4 id (fun _ _ e => e) rfl (q + 1) ⟨hq, fun i hi hij => (Nat.lt_or_eq_of_le (Nat.le_of_lt_succ hij)).elim (hqa i hi) (fun e => by subst e; exact hin)⟩ (by omega) rfl rfl rfl
        ·skip
         by_cases hnm : out[q].nm = b[k].nm
         ·skip
          by_cases hvv : out[q].ver < b[k].ver
          ·skip
           have hin : lessK out[q] b[k] = true := by unfold lessK; rw [decide_eq_true hnm, decide_eq_true hvv]; simp
           refine .d 0 4 rfl ?_
           refine .v 3 4 [] rfl rfl (fun _ _ => .bv (.bool true) rfl (congrArg Value.bool (decide_eq_true (by omega)))) ?_
           refine .v 3 4 [] rfl rfl (fun _ _ => .idx (out[q]) rfl rfl rfl rfl et27 (fun _ => rfl) (Int.natCast_nonneg q) (get_nat hq)) ?_
           refine .v 5 4 [] rfl rfl (fun _ _ => .bv (.bool false) rfl (congrArg Value.bool (Bool.not_eq_true _ ▸ hle))) ?_
           refine .v 3 4 [] rfl rfl (fun _ _ => .idx (out[q]) rfl rfl rfl rfl et27 (fun _ => rfl) (Int.natCast_nonneg q) (get_nat hq)) ?_
           refine .v 5 4 [] rfl rfl (fun _ _ => .bv (.bool true) rfl (congrArg Value.bool (decide_eq_true hnm))) ?_
           refine .v 3 4 [] rfl rfl (fun _ _ => .idx (out[q]) rfl rfl rfl rfl et27 (fun _ => rfl) (Int.natCast_nonneg q) (get_nat hq)) ?_
           refine .v 5 4 [] rfl rfl (fun _ _ => .bv (.bool true) rfl (congrArg Value.bool (decide_eq_true hvv))) ?_
           refine .y 3 4 rfl (by kernel_rfl) ?_
           refine .t 2 4 rfl rfl (.bv (.int .i64 ((q + 1 : Nat) : Int)) rfl (congrArg _ (wrap_succ hq (by omega)))) ?_
           exact .rd 1 4 id (fun _ _ e => e) rfl (q + 1) ⟨hq, fun i hi hij => (Nat.lt_or_eq_of_le (Nat.le_of_lt_succ hij)).elim (hqa i hi) (fun e => by subst e; exact hin)⟩ (by omega) rfl rfl rfl
          ·skip
           have hend : ∀ hk : q < out.length, lessK out[q] b[k] = false := fun _ => by unfold lessK; rw [Bool.not_eq_true] at hle; rw [hle, decide_eq_false hvv]; simp
           refine .d 0 4 rfl ?_
           refine .v 3 4 [] rfl rfl (fun _ _ => .bv (.bool true) rfl (congrArg Value.bool (decide_eq_true (by omega)))) ?_
           refine .v 3 4 [] rfl rfl (fun _ _ => .idx (out[q]) rfl rfl rfl rfl et27 (fun _ => rfl) (Int.natCast_nonneg q) (get_nat hq)) ?_
           refine .v 5 4 [] rfl rfl (fun _ _ => .bv (.bool false) rfl (congrArg Value.bool (Bool.not_eq_true _ ▸ hle))) ?_
           refine .v 3 4 [] rfl rfl (fun _ _ => .idx (out[q]) rfl rfl rfl rfl et27 (fun _ => rfl) (Int.natCast_nonneg q) (get_nat hq)) ?_
           refine .v 5 4 [] rfl rfl (fun _ _ => .bv (.bool true) rfl (congrArg Value.bool (decide_eq_true hnm))) ?_
           refine .v 3 4 [] rfl rfl (fun _ _ => .idx (out[q]) rfl rfl rfl rfl et27 (fun _ => rfl) (Int.natCast_nonneg q) (get_nat hq)) ?_
           refine .v 5 4 [] rfl rfl (fun _ _ => .bv (.bool false) rfl (congrArg Value.bool (decide_eq_false hvv))) ?_
           refine .y 3 4 rfl (by kernel_rfl) ?_
           refine .d 1 4 rfl ?_
           refine .v 2 4 [] rfl rfl (fun _ _ => .slice rfl rfl rfl rfl rfl et27 (fun _ => rfl) (by omega) (by omega) (by omega)) ?_
           refine .t 0 4 (E := ⟨some (121, _), [(4, _)]⟩) [4] rfl rfl (fun _ _ => .append0 4 rfl rfl rfl ap27 rfl rfl trivial (flat_one (fun _ => rfl) _) (by simp; omega) (by simp; omega)) ?_
           refine .t 3 5 (E := ⟨some (125, _), [(5, _)]⟩) [5] rfl rfl (fun _ _ => .bb (Kn.dv ⟨b[k].nm, b[k].ver, b[k].key, ep⟩) 5 rfl) ?_
           refine .t 0 6 (E := ⟨some (126, _), [(4, .dead), (6, _)]⟩) [4, 5, 6] rfl rfl (fun _ _ => .ap 6 rfl (by simp [kn_len, flat_length (sz := 4) (enc := Kn.dv) (fun _ => rfl)]) rfl (by simp; omega) (by simp; omega)) ?_
           refine .v 2 7 [] rfl rfl (fun _ _ => .slice rfl rfl rfl rfl rfl et27 (fun _ => rfl) (by omega) (by omega) (by omega)) ?_
           refine .t 0 7 (E := ⟨some (130, _), [(6, .dead), (7, _)]⟩) [6, 7] rfl rfl (fun _ _ => .ap 7 rfl (by simp [kn_len, flat_length (sz := 4) (enc := Kn.dv) (fun _ => rfl)]; omega) (flat_one (fun _ => rfl) _) (by simp; omega) (by simp; omega)) ?_
           refine .y 1 8 rfl (by kernel_rfl) ?_
           have hsp : insK b[k] ep out = out.take q ++ ⟨b[k].nm, b[k].ver, b[k].key, ep⟩ :: out.drop q := by unfold insK; rw [(while_at hqo hqa hend).1, (while_at hqo hqa hend).2]
           refine TE.frz 9 (slT Kn.dv 4 (insK b[k] ep out)) rfl rfl (by simp [kn_len, flat_length (sz := 4) (enc := Kn.dv) (fun _ => rfl)]; omega) (by rw [hsp]; simp [slT, Kn.dv, En.dv]; try omega) ?_
           refine .t 1 8 rfl rfl (.bv (.int .i64 ((k + 1 : Nat) : Int)) rfl (congrArg _ (wrap_succ hkb hb'))) ?_
           exact .rd 1 8 id (fun _ _ e => e) rfl ((k + 1, insK b[k] ep out)) ⟨hkb, by show (insK b[k] ep out).length = l.length + (k + 1); rw [insK_len]; omega, by show addGo l ep (b.take (k + 1)) (b.drop (k + 1)) (insK b[k] ep out) = _; rw [← addGo_step hkb hr hver (fun i hi hik => hnot i hi hik)]; exact hx3⟩ (by show b.length - (k + 1) < b.length - k; omega) rfl rfl rfl
         ·skip
          have hend : ∀ hk : q < out.length, lessK out[q] b[k] = false := fun _ => by unfold lessK; rw [Bool.not_eq_true] at hle; rw [hle, decide_eq_false hnm]; rfl
          refine .d 0 8 rfl ?_
          refine .v 3 8 [] rfl rfl (fun _ _ => .bv (.bool true) rfl (congrArg Value.bool (decide_eq_true (by omega)))) ?_
          refine .v 3 8 [] rfl rfl (fun _ _ => .idx (out[q]) rfl rfl rfl rfl et27 (fun _ => rfl) (Int.natCast_nonneg q) (get_nat hq)) ?_
          refine .v 5 8 [] rfl rfl (fun _ _ => .bv (.bool false) rfl (congrArg Value.bool (Bool.not_eq_true _ ▸ hle))) ?_
          refine .v 3 8 [] rfl rfl (fun _ _ => .idx (out[q]) rfl rfl rfl rfl et27 (fun _ => rfl) (Int.natCast_nonneg q) (get_nat hq)) ?_
          refine .v 5 8 [] rfl rfl (fun _ _ => .bv (.bool false) rfl (congrArg Value.bool (decide_eq_false hnm))) ?_
          refine .y 13 8 rfl (by kernel_rfl) ?_
          refine .d 1 8 rfl ?_
          refine .v 2 8 [] rfl rfl (fun _ _ => .slice rfl rfl rfl rfl rfl et27 (fun _ => rfl) (by omega) (by omega) (by omega)) ?_
          refine .t 0 8 (E := ⟨some (121, _), [(8, _)]⟩) [8] rfl rfl (fun _ _ => .append0 8 rfl rfl rfl ap27 rfl rfl trivial (flat_one (fun _ => rfl) _) (by simp; omega) (by simp; omega)) ?_
          refine .t 3 9 (E := ⟨some (125, _), [(9, _)]⟩) [9] rfl rfl (fun _ _ => .bb (Kn.dv ⟨b[k].nm, b[k].ver, b[k].key, ep⟩) 9 rfl) ?_
          refine .t 0 10 (E := ⟨some (126, _), [(8, .dead), (10, _)]⟩) [8, 9, 10] rfl rfl (fun _ _ => .ap 10 rfl (by simp [kn_len, flat_length (sz := 4) (enc := Kn.dv) (fun _ => rfl)]) rfl (by simp; omega) (by simp; omega)) ?_
          refine .v 2 11 [] rfl rfl (fun _ _ => .slice rfl rfl rfl rfl rfl et27 (fun _ => rfl) (by omega) (by omega) (by omega)) ?_
          refine .t 0 11 (E := ⟨some (130, _), [(10, .dead), (11, _)]⟩) [10, 11] rfl rfl (fun _ _ => .ap 11 rfl (by simp [kn_len, flat_length (sz := 4) (enc := Kn.dv) (fun _ => rfl)]; omega) (flat_one (fun _ => rfl) _) (by simp; omega) (by simp; omega)) ?_
          refine .y 1 12 rfl (by kernel_rfl) ?_
          have hsp : insK b[k] ep out = out.take q ++ ⟨b[k].nm, b[k].ver, b[k].key, ep⟩ :: out.drop q := by unfold insK; rw [(while_at hqo hqa hend).1, (while_at hqo hqa hend).2]
          refine TE.frz 9 (slT Kn.dv 4 (insK b[k] ep out)) rfl rfl (by simp [kn_len, flat_length (sz := 4) (enc := Kn.dv) (fun _ => rfl)]; omega) (by rw [hsp]; simp [slT, Kn.dv, En.dv]; try omega) ?_
          refine .t 1 12 rfl rfl (.bv (.int .i64 ((k + 1 : Nat) : Int)) rfl (congrArg _ (wrap_succ hkb hb'))) ?_
          exact .rd 1 12 id (fun _ _ e => e) rfl ((k + 1, insK b[k] ep out)) ⟨hkb, by show (insK b[k] ep out).length = l.length + (k + 1); rw [insK_len]; omega, by show addGo l ep (b.take (k + 1)) (b.drop (k + 1)) (insK b[k] ep out) = _; rw [← addGo_step hkb hr hver (fun i hi hik => hnot i hi hik)]; exact hx3⟩ (by show b.length - (k + 1) < b.length - k; omega) rfl rfl rfl
       ·skip
        have hend : ∀ hk : q < out.length, lessK out[q] b[k] = false := fun hk => absurd hk hq
        refine .d 0 12 rfl ?_
        refine .v 3 12 [] rfl rfl (fun _ _ => .bv (.bool false) rfl (congrArg Value.bool (decide_eq_false (by omega)))) ?_
        refine .y 33 12 rfl (by kernel_rfl) ?_
        refine .d 1 12 rfl ?_
        refine .v 2 12 [] rfl rfl (fun _ _ => .slice rfl rfl rfl rfl rfl et27 (fun _ => rfl) (by omega) (by omega) (by omega)) ?_
        refine .t 0 12 (E := ⟨some (121, _), [(12, _)]⟩) [12] rfl rfl (fun _ _ => .append0 12 rfl rfl rfl ap27 rfl rfl trivial (flat_one (fun _ => rfl) _) (by simp; omega) (by simp; omega)) ?_
        refine .t 3 13 (E := ⟨some (125, _), [(13, _)]⟩) [13] rfl rfl (fun _ _ => .bb (Kn.dv ⟨b[k].nm, b[k].ver, b[k].key, ep⟩) 13 rfl) ?_
        refine .t 0 14 (E := ⟨some (126, _), [(12, .dead), (14, _)]⟩) [12, 13, 14] rfl rfl (fun _ _ => .ap 14 rfl (by simp [kn_len, flat_length (sz := 4) (enc := Kn.dv) (fun _ => rfl)]) rfl (by simp; omega) (by simp; omega)) ?_
        refine .v 2 15 [] rfl rfl (fun _ _ => .slice rfl rfl rfl rfl rfl et27 (fun _ => rfl) (by omega) (by omega) (by omega)) ?_
        refine .t 0 15 (E := ⟨some (130, _), [(14, .dead), (15, _)]⟩) [14, 15] rfl rfl (fun _ _ => .ap 15 rfl (by simp [kn_len, flat_length (sz := 4) (enc := Kn.dv) (fun _ => rfl)]; omega) (flat_one (fun _ => rfl) _) (by simp; omega) (by simp; omega)) ?_
        refine .y 1 16 rfl (by kernel_rfl) ?_
        have hsp : insK b[k] ep out = out.take q ++ ⟨b[k].nm, b[k].ver, b[k].key, ep⟩ :: out.drop q := by unfold insK; rw [(while_at hqo hqa hend).1, (while_at hqo hqa hend).2]
        refine TE.frz 9 (slT Kn.dv 4 (insK b[k] ep out)) rfl rfl (by simp [kn_len, flat_length (sz := 4) (enc := Kn.dv) (fun _ => rfl)]; omega) (by rw [hsp]; simp [slT, Kn.dv, En.dv]; try omega) ?_
        refine .t 1 16 rfl rfl (.bv (.int .i64 ((k + 1 : Nat) : Int)) rfl (congrArg _ (wrap_succ hkb hb'))) ?_
        exact .rd 1 16 id (fun _ _ e => e) rfl ((k + 1, insK b[k] ep out)) ⟨hkb, by show (insK b[k] ep out).length = l.length + (k + 1); rw [insK_len]; omega, by show addGo l ep (b.take (k + 1)) (b.drop (k + 1)) (insK b[k] ep out) = _; rw [← addGo_step hkb hr hver (fun i hi hik => hnot i hi hik)]; exact hx3⟩ (by show b.length - (k + 1) < b.length - k; omega) rfl rfl rfl
   ·skip
    have hge : k = b.length := by have q : ¬ ((k : Int) < (b.length : Int)) := of_decide_eq_false h4; omega
    have e : addR l ep b = (out, true) := by rw [← hx3, hge, List.drop_length]; rfl
    rw [e]
    exact .z 3 16 rfl (TE.rettc rfl rfl rfl)
end Go.Proofs.YtdjcclcejmeheaaGreat

