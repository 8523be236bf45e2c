/-
  The reference's batches.
-/
import Derived.Test.YthidepbffhhkmaaIe
namespace Go.Proofs.Ythidepbffhhkmaa
set_option linter.unusedVariables false
set_option linter.unusedSimpArgs false
open Go.RowKit Pl

theorem cf12 : cfn Try.prog 12 = true := by kernel_rfl
theorem cf35 : cfn Try.prog 35 = true := by kernel_rfl
theorem et39 : elt Try.prog 39 = some (30, 3) := by kernel_rfl
theorem is39 : isSl Try.prog 39 = some true := by kernel_rfl

set_option maxRecDepth 100000 in
set_option maxHeartbeats 1600000 in
theorem add_pc (l : List Kn) (ep : Int) (b : List En) (hl : l.length ≤ 1048576) (hb : b.length ≤ 1048576) : PC Try.prog 20 [slT Kn.dv 4 l, .v (.int .i64 ep), slT En.dv 3 b] (.tp [slT Kn.dv 4 (addR l ep b).1, .v (.bool (addR l ep b).2)]) := by
  have hl' : l.length ≤ 140737488355328 := by omega
  have hb' : b.length ≤ 140737488355328 := by omega
  refine PC.enter (fn := Try.f20) Try.func20 rfl Try.ntmps20 rfl (fun w0 K0 => ?_)
  refine .seq ?_
  refine .region ?_
  refine .step rfl (.assign rfl rfl) ?_
  refine .step rfl (.assign rfl rfl) ?_
  refine .nil ?_
  refine .next ?_
  refine .seq ?_
  refine .seq ?_
  refine .region ?_
  refine .step rfl (.move rfl rfl) ?_
  refine .step rfl (.bin rfl rfl rfl rfl) ?_
  refine .nil ?_
  refine .next ?_
  refine .cond rfl (fun h1 => ?_) (fun h1 => ?_)
  ·skip
   have hep : ep < 1 := of_decide_eq_true h1
   refine .seq ?_
   refine .region ?_
   refine .step rfl (.move rfl rfl) ?_
   refine .step rfl (.assign rfl rfl) ?_
   refine .step rfl (.assign rfl rfl) ?_
   refine .nil ?_
   refine .next ?_
   refine .ret ?_
   have e : addR l ep b = (l, false) := by unfold addR; rw [if_pos (.inl hep)]
   rw [e]
   exact TE.rettc rfl rfl rfl
  ·skip
   have hep : ¬ ep < 1 := of_decide_eq_false h1
   refine .skip ?_
   refine .next ?_
   refine .seq ?_
   refine .seq ?_
   refine .region ?_
   refine .step rfl (.assign rfl rfl) ?_
   refine .nil ?_
   refine .next ?_
   refine .block ?_
   refine TC.loop (S := Nat) (fun k => k ≤ l.length ∧ ∀ j (hj : j < l.length), j < k → ¬ ep ≤ l[j].ep) (fun k => l.length - k) (fun k => [(0, .d (slT Kn.dv 4 l)), (1, .d (.v (.int .i64 ep))), (2, .d (slT En.dv 3 b)), (8, .f (.v (.int .i64 k)))]) (fun k => []) (0) ⟨Nat.zero_le _, fun j _ h => absurd h (Nat.not_lt_zero j)⟩ ⟨⟨rfl, rfl⟩, ⟨rfl, rfl⟩, ⟨rfl, rfl⟩, ⟨rfl, rfl⟩, trivial⟩ trivial (fun k hI => ?_)
   obtain ⟨hk, hno⟩ := hI
   refine .seq ?_
   refine .seq ?_
   refine .region ?_
   refine .step rfl (.move rfl rfl) ?_
   refine .step rfl (.move rfl rfl) ?_
   refine .step rfl (.len rfl rfl ⟨_, _, rfl⟩ is24) ?_
   refine .step rfl (.bin rfl rfl rfl rfl) ?_
   refine .nil ?_
   refine .next ?_
   refine .cond rfl (fun h2 => ?_) (fun h2 => ?_)
   ·skip
    have hlt : k < l.length := by have q : (k : Int) < (l.length : Int) := of_decide_eq_true h2; omega
    refine .skip ?_
    refine .next ?_
    refine .seq ?_
    refine .block ?_
    refine .seq ?_
    refine .region ?_
    refine .step rfl (.move rfl rfl) ?_
    refine .step rfl (.move rfl rfl) ?_
    refine .step rfl (.idx (l[k]) rfl rfl rfl rfl et24 (fun _ => rfl) (Int.natCast_nonneg k) (get_nat hlt)) ?_
    refine .step rfl (.fielde rfl rfl rfl fo32_1) ?_
    refine .step rfl (.lde rfl rfl rfl rfl tk3) ?_
    refine .step rfl (.move rfl rfl) ?_
    refine .step rfl (.bin rfl rfl rfl rfl) ?_
    refine .nil ?_
    refine .next ?_
    refine .cond rfl (fun h3 => ?_) (fun h3 => ?_)
    ·skip
     have hep2 : ep ≤ l[k].ep := of_decide_eq_true h3
     refine .seq ?_
     refine .region ?_
     refine .step rfl (.move rfl rfl) ?_
     refine .step rfl (.assign rfl rfl) ?_
     refine .step rfl (.assign rfl rfl) ?_
     refine .nil ?_
     refine .next ?_
     refine .ret ?_
     have e : addR l ep b = (l, false) := by unfold addR; rw [if_pos (.inr ⟨l[k], List.getElem_mem hlt, hep2⟩)]
     rw [e]
     exact TE.rettc rfl rfl rfl
    ·skip
     have hep2 : ¬ ep ≤ l[k].ep := of_decide_eq_false h3
     refine .skip ?_
     refine TE.blk ?_
     refine .next ?_
     refine .region ?_
     refine .step rfl (.move rfl rfl) ?_
     refine .step rfl (.binv (.int .i64 ((k + 1 : Nat) : Int)) rfl rfl rfl rfl (congrArg _ (wrap_succ hlt hl'))) ?_
     refine .step rfl (.assign rfl rfl) ?_
     refine .nil ?_
     exact TE.round id (fun _ _ e => e) (k + 1) ⟨hlt, fun j hj hjk => (Nat.lt_or_eq_of_le (Nat.le_of_lt_succ hjk)).elim (hno j hj) (fun e => by subst e; exact hep2)⟩ (by omega) ⟨⟨rfl, rfl⟩, ⟨rfl, rfl⟩, ⟨rfl, rfl⟩, ⟨rfl, rfl⟩, trivial⟩ trivial
   ·skip
    have hge : k = l.length := by have q : ¬ ((k : Int) < (l.length : Int)) := of_decide_eq_false h2; omega
    have hnone : ¬ ∃ q ∈ l, ep ≤ q.ep := by rintro ⟨q, hq, hqe⟩; obtain ⟨j, hj, rfl⟩ := List.getElem_of_mem hq; exact hno j hj (by omega) hqe
    have hgo : addGo l ep [] b l = addR l ep b := by unfold addR; rw [if_neg (fun q => q.elim hep hnone)]
    refine .exit ?_
    refine TE.pass ?_
    refine TE.pass ?_
    refine TE.here ?_
    refine .next ?_
    refine .seq ?_
    refine .region ?_
    refine .step rfl (.move rfl rfl) ?_
    refine .step rfl (.append0 1 rfl rfl rfl ap24 rfl rfl trivial (flat_one (fun _ => rfl) l) (by omega) (by omega)) ?_
    refine .step rfl (.assign rfl rfl) ?_
    refine .nil ?_
    refine TE.frz 9 (slT Kn.dv 4 l) rfl rfl (flat_length (enc := Kn.dv) (fun _ => rfl) l) rfl ?_
    refine .next ?_
    refine .seq ?_
    refine .seq ?_
    refine .region ?_
    refine .step rfl (.assign rfl rfl) ?_
    refine .nil ?_
    refine .next ?_
    refine .block ?_
    refine TC.loop (S := Nat × List Kn) (fun x => x.1 ≤ b.length ∧ x.2.length = l.length + x.1 ∧ addGo l ep (b.take x.1) (b.drop x.1) x.2 = addR l ep b) (fun x => b.length - x.1) (fun x => [(0, .d (slT Kn.dv 4 l)), (1, .d (.v (.int .i64 ep))), (2, .d (slT En.dv 3 b)), (9, .d (slT Kn.dv 4 x.2)), (10, .f (.v (.int .i64 x.1)))]) (fun x => [(1, .dead)]) ((0, l)) ⟨Nat.zero_le _, rfl, hgo⟩ ⟨⟨rfl, rfl⟩, ⟨rfl, rfl⟩, ⟨rfl, rfl⟩, ⟨rfl, rfl⟩, ⟨rfl, rfl⟩, trivial⟩ ⟨.inl rfl, trivial⟩ (fun x hI => ?_)
    obtain ⟨k, out⟩ := x
    obtain ⟨hx1, hx2, hx3⟩ := hI
    have hx1 : k ≤ b.length := hx1
    have hx2 : out.length = l.length + k := hx2
    have hx3 : addGo l ep (b.take k) (b.drop k) out = addR l ep b := hx3
    refine .seq ?_
    refine .seq ?_
    refine .region ?_
    refine .step rfl (.move rfl rfl) ?_
    refine .step rfl (.move rfl rfl) ?_
    refine .step rfl (.len rfl rfl ⟨_, _, rfl⟩ is39) ?_
    refine .step rfl (.bin rfl rfl rfl rfl) ?_
    refine .nil ?_
    refine .next ?_
    refine .cond rfl (fun h4 => ?_) (fun h4 => ?_)
    ·skip
     have hkb : k < b.length := by have q : (k : Int) < (b.length : Int) := of_decide_eq_true h4; omega
     refine .skip ?_
     refine .next ?_
     refine .seq ?_
     refine .block ?_
     refine .seq ?_
     refine .region ?_
     refine .step rfl (.move rfl rfl) ?_
     refine .step rfl (.move rfl rfl) ?_
     refine .step rfl (.idx (b[k]) rfl rfl rfl rfl et39 (fun _ => rfl) (Int.natCast_nonneg k) (get_nat hkb)) ?_
     refine .step rfl (.ldem rfl rfl rfl rfl rfl tk30) ?_
     refine .step rfl (.alloc 2 rfl rfl zc30 rfl) ?_
     refine .step rfl (.store rfl rfl rfl sz30 rfl rfl) ?_
     refine .nil ?_
     refine .next ?_
     refine .seq ?_
     refine .region ?_
     refine .step rfl (.move rfl rfl) ?_
     refine .step rfl (.fieldp rfl rfl rfl rfl fo30_0) ?_
     refine .step rfl (.ldp rfl rfl rfl rfl rfl tk9) ?_
     refine .step rfl (.callf rfl cf12 rfl ⟨trivial, trivial, trivial⟩ (rlatest_any l b[k].nm (by omega))) ?_
     refine .step rfl (.move rfl rfl) ?_
     refine .step rfl (.extract rfl rfl rfl rfl) ?_
     refine .step rfl (.extract rfl rfl rfl rfl) ?_
     refine .step rfl (.alloc 3 rfl rfl zc32 rfl) ?_
     refine .step rfl (.store rfl rfl rfl sz32 rfl rfl) ?_
     refine .step rfl (.assign rfl rfl) ?_
     refine .nil ?_
     refine .next ?_
     refine .seq ?_
     refine .seq ?_
     refine .region ?_
     refine .step rfl (.ldpm rfl rfl rfl rfl rfl rfl tk30) ?_
     refine .step rfl (.callf rfl cf35 rfl ⟨trivial, trivial⟩ (emay_pf b[k])) ?_
     refine .step rfl (.un rfl rfl rfl) ?_
     refine .step rfl (.move rfl rfl) ?_
     refine .case 55 rfl (fun h5 => ?_) (fun h5 => ?_)
     ·skip
      have hr : rightE b[k].nm b[k].ver b[k].key = false := by simpa using h5
      have hbad : ¬ (rightE b[k].nm b[k].ver b[k].key = true ∧ b[k].ver = i64w ((latR l b[k].nm).1.ver + 1) ∧ (∀ d ∈ b.take k, ¬ d.nm = b[k].nm)) := fun q => by rw [hr] at q; exact absurd q.1 (by simp)
      refine .no 55 rfl rfl rfl rfl rfl rfl rfl ?_
      refine .no 55 rfl rfl rfl rfl rfl rfl rfl ?_
      refine .no 55 rfl rfl rfl rfl rfl rfl rfl ?_
      refine .no 55 rfl rfl rfl rfl rfl rfl rfl ?_
      refine .no 55 rfl rfl rfl rfl rfl rfl rfl ?_
      refine .no 55 rfl rfl rfl rfl rfl rfl rfl ?_
      refine .no 55 rfl rfl rfl rfl rfl rfl rfl ?_
      refine .step rfl (.pick rfl rfl rfl) ?_
      refine .nil ?_
      refine .next ?_
      refine .cond rfl (fun h6 => ?_) (fun h6 => absurd h6 (by decide))
      refine .seq ?_
      refine .region ?_
      refine .step rfl (.move rfl rfl) ?_
      refine .step rfl (.assign rfl rfl) ?_
      refine .step rfl (.assign rfl rfl) ?_
      refine .nil ?_
      refine .next ?_
      refine .ret ?_
      have e : addR l ep b = (l, false) := by rw [← hx3, addGo_stop hkb (fun q => hbad q)]
      rw [e]
      exact TE.rettc rfl rfl rfl
     ·skip
      have hr : rightE b[k].nm b[k].ver b[k].key = true := by simpa using h5
      refine .go 55 rfl rfl rfl rfl (.fieldp rfl rfl rfl rfl fo30_1) ?_
      refine .go 55 rfl rfl rfl rfl (.ldp rfl rfl rfl rfl rfl tk3) ?_
      refine .go 55 rfl rfl rfl rfl (.fieldp rfl rfl rfl rfl fo32_0) ?_
      refine .go 55 rfl rfl rfl rfl (.fieldp rfl rfl rfl rfl fo30_1) ?_
      refine .go 55 rfl rfl rfl rfl (.ldp rfl rfl rfl rfl rfl tk3) ?_
      refine .go 55 rfl rfl rfl rfl (.bin rfl rfl rfl rfl) ?_
      refine .go 55 rfl rfl rfl rfl (.bin rfl rfl rfl rfl) ?_
      refine .step rfl (.pick rfl rfl rfl) ?_
      refine .nil ?_
      refine .next ?_
      refine .cond rfl (fun h7 => ?_) (fun h7 => ?_)
      ·skip
       have hbad : ¬ (rightE b[k].nm b[k].ver b[k].key = true ∧ b[k].ver = i64w ((latR l b[k].nm).1.ver + 1) ∧ (∀ d ∈ b.take k, ¬ d.nm = b[k].nm)) := fun q => by have h0 : (!decide (b[k].ver = i64w ((latR l b[k].nm).1.ver + 1))) = true := h7; rw [decide_eq_true q.2.1] at h0; simp at h0
       refine .seq ?_
       refine .region ?_
       refine .step rfl (.move rfl rfl) ?_
       refine .step rfl (.assign rfl rfl) ?_
       refine .step rfl (.assign rfl rfl) ?_
       refine .nil ?_
       refine .next ?_
       refine .ret ?_
       have e : addR l ep b = (l, false) := by rw [← hx3, addGo_stop hkb (fun q => hbad q)]
       rw [e]
       exact TE.rettc rfl rfl rfl
      ·skip
       have hver : b[k].ver = i64w ((latR l b[k].nm).1.ver + 1) := by have h0 : (!decide (b[k].ver = i64w ((latR l b[k].nm).1.ver + 1))) = false := h7; simpa using h0
       refine .skip ?_
       refine .next ?_
       refine .seq ?_
       refine .seq ?_
       refine .region ?_
       refine .step rfl (.assign rfl rfl) ?_
       refine .nil ?_
       refine .next ?_
       refine .block ?_
       refine TC.loop (S := Nat) (fun j => j ≤ k ∧ ∀ i (hi : i < b.length), i < j → ¬ b[i].nm = b[k].nm) (fun j => k - j) (fun j => [(0, .d (slT Kn.dv 4 l)), (1, .d (.v (.int .i64 ep))), (2, .d (slT En.dv 3 b)), (9, .d (slT Kn.dv 4 out)), (10, .f (.v (.int .i64 k))), (11, .ptr 2 0), (14, .f (.v (.int .i64 j)))]) (fun j => [(1, .dead), (2, .box 30 b[k].dv), (3, .dead)]) (0) ⟨Nat.zero_le _, fun j _ h => absurd h (Nat.not_lt_zero j)⟩ ⟨⟨rfl, rfl⟩, ⟨rfl, rfl⟩, ⟨rfl, rfl⟩, ⟨rfl, rfl⟩, ⟨rfl, rfl⟩, ⟨rfl, rfl⟩, ⟨rfl, rfl⟩, trivial⟩ ⟨.inl rfl, .inr rfl, .inl rfl, trivial⟩ (fun j hI => ?_)
       obtain ⟨hj, hnot⟩ := hI
       refine .seq ?_
       refine .seq ?_
       refine .region ?_
       refine .step rfl (.move rfl rfl) ?_
       refine .step rfl (.move rfl rfl) ?_
       refine .step rfl (.bin rfl rfl rfl rfl) ?_
       refine .nil ?_
       refine .next ?_
       refine .cond rfl (fun h8 => ?_) (fun h8 => ?_)
       ·skip
        have hlj : j < k := by have q : (j : Int) < (k : Int) := of_decide_eq_true h8; omega
        refine .skip ?_
        refine .next ?_
        refine .seq ?_
        refine .block ?_
        refine .seq ?_
        refine .draw mixed [Ro.mk _ (Eff.mk (some (70, _)) []) [], Ro.mk _ (Eff.mk (some (71, _)) []) [], Ro.mk _ (Eff.mk (some (72, _)) []) [], Ro.mk _ (Eff.mk (some (73, _)) []) [], Ro.mk _ (Eff.mk (some (74, _)) []) [], Ro.mk _ (Eff.mk (some (75, _)) []) [2], Ro.mk _ (Eff.mk (some (76, _)) []) [2], Ro.mk _ (Eff.mk (some (77, _)) []) []] rfl ⟨(fun _ _ => .move rfl rfl), (fun _ _ => .move rfl rfl), (fun _ _ => .idx (b[j]) rfl rfl rfl rfl et39 (fun _ => rfl) (Int.natCast_nonneg j) (get_nat (Nat.lt_trans hlj hkb))), (fun _ _ => .fielde rfl rfl rfl fo30_0), (fun _ _ => .lde rfl rfl rfl rfl tk9), (fun _ _ => .fieldp rfl rfl rfl rfl fo30_0), (fun _ _ => .ldp rfl rfl rfl rfl rfl tk9), (fun _ _ => .bin rfl rfl rfl rfl), trivial⟩ (by kernel_rfl) ?_
        refine .next ?_
        refine .cond rfl (fun h9 => ?_) (fun h9 => ?_)
        ·skip
         have hsame : b[j].nm = b[k].nm := of_decide_eq_true h9
         refine .seq ?_
         refine .region ?_
         refine .step rfl (.move rfl rfl) ?_
         refine .step rfl (.assign rfl rfl) ?_
         refine .step rfl (.assign rfl rfl) ?_
         refine .nil ?_
         refine .next ?_
         refine .ret ?_
         have e : addR l ep b = (l, false) := by rw [← hx3, addGo_stop hkb (fun q => q.2.2 b[j] (mem_take_of _ hlj) hsame)]
         rw [e]
         exact TE.rettc rfl rfl rfl
        ·skip
         have hsame : ¬ b[j].nm = b[k].nm := of_decide_eq_false h9
         refine .skip ?_
         refine TE.blk ?_
         refine .next ?_
         refine .region ?_
         refine .step rfl (.move rfl rfl) ?_
         refine .step rfl (.binv (.int .i64 ((j + 1 : Nat) : Int)) rfl rfl rfl rfl (congrArg _ (wrap_succ (Nat.lt_trans hlj hkb) hb'))) ?_
         refine .step rfl (.assign rfl rfl) ?_
         refine .nil ?_
         exact TE.round id (fun _ _ e => e) (j + 1) ⟨hlj, fun i hi hij => (Nat.lt_or_eq_of_le (Nat.le_of_lt_succ hij)).elim (hnot i hi) (fun e => by subst e; exact hsame)⟩ (by omega) ⟨⟨rfl, rfl⟩, ⟨rfl, rfl⟩, ⟨rfl, rfl⟩, ⟨rfl, rfl⟩, ⟨rfl, rfl⟩, ⟨rfl, rfl⟩, ⟨rfl, rfl⟩, trivial⟩ ⟨.inl rfl, .inr rfl, .inl rfl, trivial⟩
       ·skip
        have hge : j = k := by have q : ¬ ((j : Int) < (k : Int)) := of_decide_eq_false h8; omega
        refine .exit ?_
        refine TE.pass ?_
        refine TE.pass ?_
        refine TE.here ?_
        refine .next ?_
        refine .seq ?_
        refine .region ?_
        refine .step rfl (.assign rfl rfl) ?_
        refine .nil ?_
        refine .next ?_
        refine .seq ?_
        refine .block ?_
        refine TC.loop (S := Nat) (fun q => q ≤ out.length ∧ ∀ i (hi : i < out.length), i < q → lessK out[i] b[k] = true) (fun q => out.length - q) (fun q => [(0, .d (slT Kn.dv 4 l)), (1, .d (.v (.int .i64 ep))), (2, .d (slT En.dv 3 b)), (9, .d (slT Kn.dv 4 out)), (10, .f (.v (.int .i64 k))), (11, .ptr 2 0), (15, .f (.v (.int .i64 q)))]) (fun q => [(1, .dead), (2, .box 30 b[k].dv), (3, .dead)]) (0) ⟨Nat.zero_le _, fun j _ h => absurd h (Nat.not_lt_zero j)⟩ ⟨⟨rfl, rfl⟩, ⟨rfl, rfl⟩, ⟨rfl, rfl⟩, ⟨rfl, rfl⟩, ⟨rfl, rfl⟩, ⟨rfl, rfl⟩, ⟨rfl, rfl⟩, trivial⟩ ⟨.inl rfl, .inr rfl, .inl rfl, trivial⟩ (fun q hI => ?_)
        rw [hge] at hnot
        obtain ⟨hqo, hqa⟩ := hI
        refine .seq ?_
        refine .seq ?_
        by_cases hq : q < out.length
        ·skip
         by_cases hle : Op.bytesLess out[q].nm b[k].nm = true
         ·skip
          have hin : lessK out[q] b[k] = true := by unfold lessK; rw [hle]; rfl
          refine .draw mixed [Ro.mk _ (Eff.mk (some (79, _)) []) [], Ro.mk _ (Eff.mk (some (80, _)) []) [], Ro.mk _ (Eff.mk (some (81, _)) []) [], Ro.mk _ (Eff.mk (some (82, _)) []) [], Ro.mk _ (Eff.mk (some (83, _)) []) [], Ro.mk _ (Eff.mk (some (84, _)) []) [], Ro.mk _ (Eff.mk (some (85, _)) []) [], Ro.mk _ (Eff.mk (some (86, _)) []) [], Ro.mk _ (Eff.mk (some (87, _)) []) [], Ro.mk _ (Eff.mk (some (88, _)) []) [], Ro.mk _ (Eff.mk (some (89, _)) []) [], Ro.mk _ (Eff.mk (some (90, _)) []) [2], Ro.mk _ (Eff.mk (some (91, _)) []) [2], Ro.mk _ (Eff.mk (some (92, _)) []) [], Ro.mk _ (Eff.mk (some (93, _)) []) [], Ro.mk _ (Eff.mk (some (94, _)) []) [], Ro.mk _ (Eff.mk (some (95, _)) []) [], Ro.mk _ (Eff.mk (some (96, _)) []) [], Ro.mk _ (Eff.mk (some (97, _)) []) [], Ro.mk _ (Eff.mk (some (98, _)) []) [], Ro.mk _ (Eff.mk (some (99, _)) []) [], Ro.mk _ (Eff.mk (some (100, _)) []) [], Ro.mk _ (Eff.mk (some (101, _)) []) [], Ro.mk _ (Eff.mk (some (102, _)) []) [], Ro.mk _ (Eff.mk (some (103, _)) []) [], Ro.mk _ (Eff.mk (some (104, _)) []) [], Ro.mk _ (Eff.mk (some (105, _)) []) [], Ro.mk _ (Eff.mk (some (106, _)) []) [], Ro.mk _ (Eff.mk (some (107, _)) []) [], Ro.mk _ (Eff.mk (some (108, _)) []) [], Ro.mk _ (Eff.mk (some (109, _)) []) [], Ro.mk _ (Eff.mk (some (110, _)) []) [], Ro.mk _ (Eff.mk (some (111, _)) []) [], Ro.mk _ (Eff.mk (some (112, _)) []) [], Ro.mk _ (Eff.mk (some (113, _)) []) [], Ro.mk _ (Eff.mk (some (114, _)) []) [], Ro.mk _ (Eff.mk (some (115, _)) []) []] rfl ⟨(fun _ _ => .move rfl rfl), (fun _ _ => .move rfl rfl), (fun _ _ => .len rfl rfl ⟨_, _, rfl⟩ is24), (fun _ _ => .binv (.bool true) rfl rfl rfl rfl (congrArg Value.bool (decide_eq_true (by omega)))), (fun _ _ => .move rfl rfl), (.inr ⟨83, _, rfl, rfl, rfl, rfl, fun _ _ => .move rfl rfl⟩), (.inr ⟨83, _, rfl, rfl, rfl, rfl, fun _ _ => .move rfl rfl⟩), (.inr ⟨83, _, rfl, rfl, rfl, rfl, fun _ _ => .idx (out[q]) rfl rfl rfl rfl et24 (fun _ => rfl) (Int.natCast_nonneg q) (get_nat hq)⟩), (.inr ⟨83, _, rfl, rfl, rfl, rfl, fun _ _ => .fielde rfl rfl rfl fo32_0⟩), (.inr ⟨83, _, rfl, rfl, rfl, rfl, fun _ _ => .fielde rfl rfl rfl fo30_0⟩), (.inr ⟨83, _, rfl, rfl, rfl, rfl, fun _ _ => .lde rfl rfl rfl rfl tk9⟩), (.inr ⟨83, _, rfl, rfl, rfl, rfl, fun _ _ => .fieldp rfl rfl rfl rfl fo30_0⟩), (.inr ⟨83, _, rfl, rfl, rfl, rfl, fun _ _ => .ldp rfl rfl rfl rfl rfl tk9⟩), (.inr ⟨83, _, rfl, rfl, rfl, rfl, fun _ _ => .binv (.bool true) rfl rfl rfl rfl (congrArg Value.bool hle)⟩), (.inr ⟨83, _, rfl, rfl, rfl, rfl, fun _ _ => .move rfl rfl⟩), (.inr ⟨93, _, rfl, rfl, rfl, rfl, 94, rfl, rfl, rfl⟩), (.inr ⟨93, _, rfl, rfl, rfl, rfl, 95, rfl, rfl, rfl⟩), (.inr ⟨93, _, rfl, rfl, rfl, rfl, 96, rfl, rfl, rfl⟩), (.inr ⟨93, _, rfl, rfl, rfl, rfl, 97, rfl, rfl, rfl⟩), (.inr ⟨93, _, rfl, rfl, rfl, rfl, 98, rfl, rfl, rfl⟩), (.inr ⟨93, _, rfl, rfl, rfl, rfl, 99, rfl, rfl, rfl⟩), (.inr ⟨93, _, rfl, rfl, rfl, rfl, 100, rfl, rfl, rfl⟩), (.inr ⟨93, _, rfl, rfl, rfl, rfl, 101, rfl, rfl, rfl⟩), (.inr ⟨93, _, rfl, rfl, rfl, rfl, 102, rfl, rfl, rfl⟩), (.inr ⟨93, _, rfl, rfl, rfl, rfl, 103, rfl, rfl, rfl⟩), (.inl ⟨103, _, rfl, rfl, rfl, rfl, rfl, rfl⟩), (.inl ⟨103, _, rfl, rfl, rfl, rfl, rfl, rfl⟩), (.inl ⟨103, _, rfl, rfl, rfl, rfl, rfl, rfl⟩), (.inl ⟨103, _, rfl, rfl, rfl, rfl, rfl, rfl⟩), (.inl ⟨103, _, rfl, rfl, rfl, rfl, rfl, rfl⟩), (.inl ⟨103, _, rfl, rfl, rfl, rfl, rfl, rfl⟩), (.inl ⟨103, _, rfl, rfl, rfl, rfl, rfl, rfl⟩), (.inl ⟨103, _, rfl, rfl, rfl, rfl, rfl, rfl⟩), (.inl ⟨103, _, rfl, rfl, rfl, rfl, rfl, rfl⟩), (.inr ⟨93, _, rfl, rfl, rfl, rfl, 113, rfl, rfl, rfl⟩), (.inr ⟨83, _, rfl, rfl, rfl, rfl, fun _ _ => .pick rfl rfl rfl⟩), (fun _ _ => .pick rfl rfl rfl), trivial⟩ (by kernel_rfl) ?_
          refine .next ?_
          refine .cond rfl (fun h12 => ?_) (fun h12 => absurd h12 (by decide))
          refine .skip ?_
          refine .next ?_
          refine .block ?_
          refine .region ?_
          refine .step rfl (.move rfl rfl) ?_
          refine .step rfl (.binv (.int .i64 ((q + 1 : Nat) : Int)) rfl rfl rfl rfl (congrArg _ (wrap_succ hq (by omega)))) ?_
          refine .step rfl (.assign rfl rfl) ?_
          refine .nil ?_
          refine TE.blk ?_
          exact TE.round id (fun _ _ e => e) (q + 1) ⟨hq, fun i hi hij => (Nat.lt_or_eq_of_le (Nat.le_of_lt_succ hij)).elim (hqa i hi) (fun e => by subst e; exact hin)⟩ (by omega) ⟨⟨rfl, rfl⟩, ⟨rfl, rfl⟩, ⟨rfl, rfl⟩, ⟨rfl, rfl⟩, ⟨rfl, rfl⟩, ⟨rfl, rfl⟩, ⟨rfl, rfl⟩, trivial⟩ ⟨.inl rfl, .inr rfl, .inl rfl, trivial⟩
         ·skip
          by_cases hnm : out[q].nm = b[k].nm
          ·skip
           by_cases hvv : out[q].ver < b[k].ver
           ·skip
            have hin : lessK out[q] b[k] = true := by unfold lessK; rw [decide_eq_true hnm, decide_eq_true hvv]; simp
            refine .draw mixed [Ro.mk _ (Eff.mk (some (79, _)) []) [], Ro.mk _ (Eff.mk (some (80, _)) []) [], Ro.mk _ (Eff.mk (some (81, _)) []) [], Ro.mk _ (Eff.mk (some (82, _)) []) [], Ro.mk _ (Eff.mk (some (83, _)) []) [], Ro.mk _ (Eff.mk (some (84, _)) []) [], Ro.mk _ (Eff.mk (some (85, _)) []) [], Ro.mk _ (Eff.mk (some (86, _)) []) [], Ro.mk _ (Eff.mk (some (87, _)) []) [], Ro.mk _ (Eff.mk (some (88, _)) []) [], Ro.mk _ (Eff.mk (some (89, _)) []) [], Ro.mk _ (Eff.mk (some (90, _)) []) [2], Ro.mk _ (Eff.mk (some (91, _)) []) [2], Ro.mk _ (Eff.mk (some (92, _)) []) [], Ro.mk _ (Eff.mk (some (93, _)) []) [], Ro.mk _ (Eff.mk (some (94, _)) []) [], Ro.mk _ (Eff.mk (some (95, _)) []) [], Ro.mk _ (Eff.mk (some (96, _)) []) [], Ro.mk _ (Eff.mk (some (97, _)) []) [], Ro.mk _ (Eff.mk (some (98, _)) []) [], Ro.mk _ (Eff.mk (some (99, _)) []) [], Ro.mk _ (Eff.mk (some (100, _)) []) [2], Ro.mk _ (Eff.mk (some (101, _)) []) [2], Ro.mk _ (Eff.mk (some (102, _)) []) [], Ro.mk _ (Eff.mk (some (103, _)) []) [], Ro.mk _ (Eff.mk (some (104, _)) []) [], Ro.mk _ (Eff.mk (some (105, _)) []) [], Ro.mk _ (Eff.mk (some (106, _)) []) [], Ro.mk _ (Eff.mk (some (107, _)) []) [], Ro.mk _ (Eff.mk (some (108, _)) []) [], Ro.mk _ (Eff.mk (some (109, _)) []) [], Ro.mk _ (Eff.mk (some (110, _)) []) [2], Ro.mk _ (Eff.mk (some (111, _)) []) [2], Ro.mk _ (Eff.mk (some (112, _)) []) [], Ro.mk _ (Eff.mk (some (113, _)) []) [], Ro.mk _ (Eff.mk (some (114, _)) []) [], Ro.mk _ (Eff.mk (some (115, _)) []) []] rfl ⟨(fun _ _ => .move rfl rfl), (fun _ _ => .move rfl rfl), (fun _ _ => .len rfl rfl ⟨_, _, rfl⟩ is24), (fun _ _ => .binv (.bool true) rfl rfl rfl rfl (congrArg Value.bool (decide_eq_true (by omega)))), (fun _ _ => .move rfl rfl), (.inr ⟨83, _, rfl, rfl, rfl, rfl, fun _ _ => .move rfl rfl⟩), (.inr ⟨83, _, rfl, rfl, rfl, rfl, fun _ _ => .move rfl rfl⟩), (.inr ⟨83, _, rfl, rfl, rfl, rfl, fun _ _ => .idx (out[q]) rfl rfl rfl rfl et24 (fun _ => rfl) (Int.natCast_nonneg q) (get_nat hq)⟩), (.inr ⟨83, _, rfl, rfl, rfl, rfl, fun _ _ => .fielde rfl rfl rfl fo32_0⟩), (.inr ⟨83, _, rfl, rfl, rfl, rfl, fun _ _ => .fielde rfl rfl rfl fo30_0⟩), (.inr ⟨83, _, rfl, rfl, rfl, rfl, fun _ _ => .lde rfl rfl rfl rfl tk9⟩), (.inr ⟨83, _, rfl, rfl, rfl, rfl, fun _ _ => .fieldp rfl rfl rfl rfl fo30_0⟩), (.inr ⟨83, _, rfl, rfl, rfl, rfl, fun _ _ => .ldp rfl rfl rfl rfl rfl tk9⟩), (.inr ⟨83, _, rfl, rfl, rfl, rfl, fun _ _ => .binv (.bool false) rfl rfl rfl rfl (congrArg Value.bool (Bool.not_eq_true _ ▸ hle))⟩), (.inr ⟨83, _, rfl, rfl, rfl, rfl, fun _ _ => .move rfl rfl⟩), (.inr ⟨93, _, rfl, rfl, rfl, rfl, fun _ _ => .move rfl rfl⟩), (.inr ⟨93, _, rfl, rfl, rfl, rfl, fun _ _ => .move rfl rfl⟩), (.inr ⟨93, _, rfl, rfl, rfl, rfl, fun _ _ => .idx (out[q]) rfl rfl rfl rfl et24 (fun _ => rfl) (Int.natCast_nonneg q) (get_nat hq)⟩), (.inr ⟨93, _, rfl, rfl, rfl, rfl, fun _ _ => .fielde rfl rfl rfl fo32_0⟩), (.inr ⟨93, _, rfl, rfl, rfl, rfl, fun _ _ => .fielde rfl rfl rfl fo30_0⟩), (.inr ⟨93, _, rfl, rfl, rfl, rfl, fun _ _ => .lde rfl rfl rfl rfl tk9⟩), (.inr ⟨93, _, rfl, rfl, rfl, rfl, fun _ _ => .fieldp rfl rfl rfl rfl fo30_0⟩), (.inr ⟨93, _, rfl, rfl, rfl, rfl, fun _ _ => .ldp rfl rfl rfl rfl rfl tk9⟩), (.inr ⟨93, _, rfl, rfl, rfl, rfl, fun _ _ => .binv (.bool true) rfl rfl rfl rfl (congrArg Value.bool (decide_eq_true hnm))⟩), (.inr ⟨93, _, rfl, rfl, rfl, rfl, fun _ _ => .move rfl rfl⟩), (.inr ⟨103, _, rfl, rfl, rfl, rfl, fun _ _ => .move rfl rfl⟩), (.inr ⟨103, _, rfl, rfl, rfl, rfl, fun _ _ => .move rfl rfl⟩), (.inr ⟨103, _, rfl, rfl, rfl, rfl, fun _ _ => .idx (out[q]) rfl rfl rfl rfl et24 (fun _ => rfl) (Int.natCast_nonneg q) (get_nat hq)⟩), (.inr ⟨103, _, rfl, rfl, rfl, rfl, fun _ _ => .fielde rfl rfl rfl fo32_0⟩), (.inr ⟨103, _, rfl, rfl, rfl, rfl, fun _ _ => .fielde rfl rfl rfl fo30_1⟩), (.inr ⟨103, _, rfl, rfl, rfl, rfl, fun _ _ => .lde rfl rfl rfl rfl tk3⟩), (.inr ⟨103, _, rfl, rfl, rfl, rfl, fun _ _ => .fieldp rfl rfl rfl rfl fo30_1⟩), (.inr ⟨103, _, rfl, rfl, rfl, rfl, fun _ _ => .ldp rfl rfl rfl rfl rfl tk3⟩), (.inr ⟨103, _, rfl, rfl, rfl, rfl, fun _ _ => .binv (.bool true) rfl rfl rfl rfl (congrArg Value.bool (decide_eq_true hvv))⟩), (.inr ⟨93, _, rfl, rfl, rfl, rfl, fun _ _ => .pick rfl rfl rfl⟩), (.inr ⟨83, _, rfl, rfl, rfl, rfl, fun _ _ => .pick rfl rfl rfl⟩), (fun _ _ => .pick rfl rfl rfl), trivial⟩ (by kernel_rfl) ?_
            refine .next ?_
            refine .cond rfl (fun h15 => ?_) (fun h15 => absurd h15 (by decide))
            refine .skip ?_
            refine .next ?_
            refine .block ?_
            refine .region ?_
            refine .step rfl (.move rfl rfl) ?_
            refine .step rfl (.binv (.int .i64 ((q + 1 : Nat) : Int)) rfl rfl rfl rfl (congrArg _ (wrap_succ hq (by omega)))) ?_
            refine .step rfl (.assign rfl rfl) ?_
            refine .nil ?_
            refine TE.blk ?_
            exact TE.round id (fun _ _ e => e) (q + 1) ⟨hq, fun i hi hij => (Nat.lt_or_eq_of_le (Nat.le_of_lt_succ hij)).elim (hqa i hi) (fun e => by subst e; exact hin)⟩ (by omega) ⟨⟨rfl, rfl⟩, ⟨rfl, rfl⟩, ⟨rfl, rfl⟩, ⟨rfl, rfl⟩, ⟨rfl, rfl⟩, ⟨rfl, rfl⟩, ⟨rfl, rfl⟩, trivial⟩ ⟨.inl rfl, .inr rfl, .inl rfl, trivial⟩
           ·skip
            have hend : ∀ hk : q < out.length, lessK out[q] b[k] = false := fun _ => by unfold lessK; rw [Bool.not_eq_true] at hle; rw [hle, decide_eq_false hvv]; simp
            refine .draw mixed [Ro.mk _ (Eff.mk (some (79, _)) []) [], Ro.mk _ (Eff.mk (some (80, _)) []) [], Ro.mk _ (Eff.mk (some (81, _)) []) [], Ro.mk _ (Eff.mk (some (82, _)) []) [], Ro.mk _ (Eff.mk (some (83, _)) []) [], Ro.mk _ (Eff.mk (some (84, _)) []) [], Ro.mk _ (Eff.mk (some (85, _)) []) [], Ro.mk _ (Eff.mk (some (86, _)) []) [], Ro.mk _ (Eff.mk (some (87, _)) []) [], Ro.mk _ (Eff.mk (some (88, _)) []) [], Ro.mk _ (Eff.mk (some (89, _)) []) [], Ro.mk _ (Eff.mk (some (90, _)) []) [2], Ro.mk _ (Eff.mk (some (91, _)) []) [2], Ro.mk _ (Eff.mk (some (92, _)) []) [], Ro.mk _ (Eff.mk (some (93, _)) []) [], Ro.mk _ (Eff.mk (some (94, _)) []) [], Ro.mk _ (Eff.mk (some (95, _)) []) [], Ro.mk _ (Eff.mk (some (96, _)) []) [], Ro.mk _ (Eff.mk (some (97, _)) []) [], Ro.mk _ (Eff.mk (some (98, _)) []) [], Ro.mk _ (Eff.mk (some (99, _)) []) [], Ro.mk _ (Eff.mk (some (100, _)) []) [2], Ro.mk _ (Eff.mk (some (101, _)) []) [2], Ro.mk _ (Eff.mk (some (102, _)) []) [], Ro.mk _ (Eff.mk (some (103, _)) []) [], Ro.mk _ (Eff.mk (some (104, _)) []) [], Ro.mk _ (Eff.mk (some (105, _)) []) [], Ro.mk _ (Eff.mk (some (106, _)) []) [], Ro.mk _ (Eff.mk (some (107, _)) []) [], Ro.mk _ (Eff.mk (some (108, _)) []) [], Ro.mk _ (Eff.mk (some (109, _)) []) [], Ro.mk _ (Eff.mk (some (110, _)) []) [2], Ro.mk _ (Eff.mk (some (111, _)) []) [2], Ro.mk _ (Eff.mk (some (112, _)) []) [], Ro.mk _ (Eff.mk (some (113, _)) []) [], Ro.mk _ (Eff.mk (some (114, _)) []) [], Ro.mk _ (Eff.mk (some (115, _)) []) []] rfl ⟨(fun _ _ => .move rfl rfl), (fun _ _ => .move rfl rfl), (fun _ _ => .len rfl rfl ⟨_, _, rfl⟩ is24), (fun _ _ => .binv (.bool true) rfl rfl rfl rfl (congrArg Value.bool (decide_eq_true (by omega)))), (fun _ _ => .move rfl rfl), (.inr ⟨83, _, rfl, rfl, rfl, rfl, fun _ _ => .move rfl rfl⟩), (.inr ⟨83, _, rfl, rfl, rfl, rfl, fun _ _ => .move rfl rfl⟩), (.inr ⟨83, _, rfl, rfl, rfl, rfl, fun _ _ => .idx (out[q]) rfl rfl rfl rfl et24 (fun _ => rfl) (Int.natCast_nonneg q) (get_nat hq)⟩), (.inr ⟨83, _, rfl, rfl, rfl, rfl, fun _ _ => .fielde rfl rfl rfl fo32_0⟩), (.inr ⟨83, _, rfl, rfl, rfl, rfl, fun _ _ => .fielde rfl rfl rfl fo30_0⟩), (.inr ⟨83, _, rfl, rfl, rfl, rfl, fun _ _ => .lde rfl rfl rfl rfl tk9⟩), (.inr ⟨83, _, rfl, rfl, rfl, rfl, fun _ _ => .fieldp rfl rfl rfl rfl fo30_0⟩), (.inr ⟨83, _, rfl, rfl, rfl, rfl, fun _ _ => .ldp rfl rfl rfl rfl rfl tk9⟩), (.inr ⟨83, _, rfl, rfl, rfl, rfl, fun _ _ => .binv (.bool false) rfl rfl rfl rfl (congrArg Value.bool (Bool.not_eq_true _ ▸ hle))⟩), (.inr ⟨83, _, rfl, rfl, rfl, rfl, fun _ _ => .move rfl rfl⟩), (.inr ⟨93, _, rfl, rfl, rfl, rfl, fun _ _ => .move rfl rfl⟩), (.inr ⟨93, _, rfl, rfl, rfl, rfl, fun _ _ => .move rfl rfl⟩), (.inr ⟨93, _, rfl, rfl, rfl, rfl, fun _ _ => .idx (out[q]) rfl rfl rfl rfl et24 (fun _ => rfl) (Int.natCast_nonneg q) (get_nat hq)⟩), (.inr ⟨93, _, rfl, rfl, rfl, rfl, fun _ _ => .fielde rfl rfl rfl fo32_0⟩), (.inr ⟨93, _, rfl, rfl, rfl, rfl, fun _ _ => .fielde rfl rfl rfl fo30_0⟩), (.inr ⟨93, _, rfl, rfl, rfl, rfl, fun _ _ => .lde rfl rfl rfl rfl tk9⟩), (.inr ⟨93, _, rfl, rfl, rfl, rfl, fun _ _ => .fieldp rfl rfl rfl rfl fo30_0⟩), (.inr ⟨93, _, rfl, rfl, rfl, rfl, fun _ _ => .ldp rfl rfl rfl rfl rfl tk9⟩), (.inr ⟨93, _, rfl, rfl, rfl, rfl, fun _ _ => .binv (.bool true) rfl rfl rfl rfl (congrArg Value.bool (decide_eq_true hnm))⟩), (.inr ⟨93, _, rfl, rfl, rfl, rfl, fun _ _ => .move rfl rfl⟩), (.inr ⟨103, _, rfl, rfl, rfl, rfl, fun _ _ => .move rfl rfl⟩), (.inr ⟨103, _, rfl, rfl, rfl, rfl, fun _ _ => .move rfl rfl⟩), (.inr ⟨103, _, rfl, rfl, rfl, rfl, fun _ _ => .idx (out[q]) rfl rfl rfl rfl et24 (fun _ => rfl) (Int.natCast_nonneg q) (get_nat hq)⟩), (.inr ⟨103, _, rfl, rfl, rfl, rfl, fun _ _ => .fielde rfl rfl rfl fo32_0⟩), (.inr ⟨103, _, rfl, rfl, rfl, rfl, fun _ _ => .fielde rfl rfl rfl fo30_1⟩), (.inr ⟨103, _, rfl, rfl, rfl, rfl, fun _ _ => .lde rfl rfl rfl rfl tk3⟩), (.inr ⟨103, _, rfl, rfl, rfl, rfl, fun _ _ => .fieldp rfl rfl rfl rfl fo30_1⟩), (.inr ⟨103, _, rfl, rfl, rfl, rfl, fun _ _ => .ldp rfl rfl rfl rfl rfl tk3⟩), (.inr ⟨103, _, rfl, rfl, rfl, rfl, fun _ _ => .binv (.bool false) rfl rfl rfl rfl (congrArg Value.bool (decide_eq_false hvv))⟩), (.inr ⟨93, _, rfl, rfl, rfl, rfl, fun _ _ => .pick rfl rfl rfl⟩), (.inr ⟨83, _, rfl, rfl, rfl, rfl, fun _ _ => .pick rfl rfl rfl⟩), (fun _ _ => .pick rfl rfl rfl), trivial⟩ (by kernel_rfl) ?_
            refine .next ?_
            refine .cond rfl (fun h16 => absurd h16 (by decide)) (fun h16 => ?_)
            refine .exit ?_
            refine TE.pass ?_
            refine TE.pass ?_
            refine TE.here ?_
            refine .next ?_
            refine .draw mixed [Ro.mk _ (Eff.mk (some (118, _)) []) [], Ro.mk _ (Eff.mk (some (119, _)) []) [], Ro.mk _ (Eff.mk (some (120, _)) []) [], Ro.mk _ (Eff.mk (some (121, _)) [(4, _)]) [4], Ro.mk _ (Eff.mk (some (122, _)) []) [2], Ro.mk _ (Eff.mk (some (123, _)) []) [], Ro.mk _ (Eff.mk (some (124, _)) []) [], Ro.mk _ (Eff.mk (some (125, _)) [(5, _)]) [5], Ro.mk _ (Eff.mk (some (126, _)) [(4, .dead), (6, _)]) [4, 5, 6], Ro.mk _ (Eff.mk (some (127, _)) []) [], Ro.mk _ (Eff.mk (some (128, _)) []) [], Ro.mk _ (Eff.mk (some (129, _)) []) [], Ro.mk _ (Eff.mk (some (130, _)) [(6, .dead), (7, _)]) [6, 7], Ro.mk _ (Eff.mk (some (9, _)) []) []] rfl ⟨(fun _ _ => .move rfl rfl), (fun _ _ => .move rfl rfl), (fun _ _ => .slice rfl rfl rfl rfl rfl et24 (fun _ => rfl) (by omega) (by omega) (by omega)), (fun _ _ => .append0 4 rfl rfl rfl ap24 rfl rfl trivial (flat_one (fun _ => rfl) _) (by simp; omega) (by simp; omega)), (fun _ _ => .ldpm rfl rfl rfl rfl rfl rfl tk30), (fun _ _ => .move rfl rfl), (fun _ _ => .build rfl rfl sp32 rfl rfl), (fun _ _ => .buildsl (ds := Kn.dv ⟨b[k].nm, b[k].ver, b[k].key, ep⟩) 5 rfl rfl rfl ap24 zc32 rfl rfl rfl), (fun _ _ => .append 6 rfl rfl rfl (by simp [kn_len, flat_length (sz := 4) (enc := Kn.dv) (fun _ => rfl)]) rfl ap24 rfl rfl (okA_len rfl rfl) rfl (by simp; omega) (by simp; omega)), (fun _ _ => .move rfl rfl), (fun _ _ => .move rfl rfl), (fun _ _ => .slice rfl rfl rfl rfl rfl et24 (fun _ => rfl) (by omega) (by omega) (by omega)), (fun _ _ => .append 7 rfl rfl rfl (by simp [kn_len, flat_length (sz := 4) (enc := Kn.dv) (fun _ => rfl)]; omega) rfl ap24 rfl rfl trivial (flat_one (fun _ => rfl) _) (by simp; omega) (by simp; omega)), (fun _ _ => .assign rfl rfl), trivial⟩ (by kernel_rfl) ?_
            have hsp : insK b[k] ep out = out.take q ++ ⟨b[k].nm, b[k].ver, b[k].key, ep⟩ :: out.drop q := by unfold insK; rw [(while_at hqo hqa hend).1, (while_at hqo hqa hend).2]
            refine TE.frz 9 (slT Kn.dv 4 (insK b[k] ep out)) rfl rfl (by simp [kn_len, flat_length (sz := 4) (enc := Kn.dv) (fun _ => rfl)]; omega) (by rw [hsp]; simp [slT, Kn.dv, En.dv]; try omega) ?_
            refine TE.blk ?_
            refine .next ?_
            refine .region ?_
            refine .step rfl (.move rfl rfl) ?_
            refine .step rfl (.binv (.int .i64 ((k + 1 : Nat) : Int)) rfl rfl rfl rfl (congrArg _ (wrap_succ hkb hb'))) ?_
            refine .step rfl (.assign rfl rfl) ?_
            refine .nil ?_
            exact TE.round id (fun _ _ e => e) ((k + 1, insK b[k] ep out)) ⟨hkb, by show (insK b[k] ep out).length = l.length + (k + 1); rw [insK_len]; omega, by show addGo l ep (b.take (k + 1)) (b.drop (k + 1)) (insK b[k] ep out) = _; rw [← addGo_step hkb hr hver (fun i hi hik => hnot i hi hik)]; exact hx3⟩ (by show b.length - (k + 1) < b.length - k; omega) ⟨⟨rfl, rfl⟩, ⟨rfl, rfl⟩, ⟨rfl, rfl⟩, ⟨rfl, rfl⟩, ⟨rfl, rfl⟩, trivial⟩ ⟨.inl rfl, trivial⟩
          ·skip
           have hend : ∀ hk : q < out.length, lessK out[q] b[k] = false := fun _ => by unfold lessK; rw [Bool.not_eq_true] at hle; rw [hle, decide_eq_false hnm]; rfl
           refine .draw mixed [Ro.mk _ (Eff.mk (some (79, _)) []) [], Ro.mk _ (Eff.mk (some (80, _)) []) [], Ro.mk _ (Eff.mk (some (81, _)) []) [], Ro.mk _ (Eff.mk (some (82, _)) []) [], Ro.mk _ (Eff.mk (some (83, _)) []) [], Ro.mk _ (Eff.mk (some (84, _)) []) [], Ro.mk _ (Eff.mk (some (85, _)) []) [], Ro.mk _ (Eff.mk (some (86, _)) []) [], Ro.mk _ (Eff.mk (some (87, _)) []) [], Ro.mk _ (Eff.mk (some (88, _)) []) [], Ro.mk _ (Eff.mk (some (89, _)) []) [], Ro.mk _ (Eff.mk (some (90, _)) []) [2], Ro.mk _ (Eff.mk (some (91, _)) []) [2], Ro.mk _ (Eff.mk (some (92, _)) []) [], Ro.mk _ (Eff.mk (some (93, _)) []) [], Ro.mk _ (Eff.mk (some (94, _)) []) [], Ro.mk _ (Eff.mk (some (95, _)) []) [], Ro.mk _ (Eff.mk (some (96, _)) []) [], Ro.mk _ (Eff.mk (some (97, _)) []) [], Ro.mk _ (Eff.mk (some (98, _)) []) [], Ro.mk _ (Eff.mk (some (99, _)) []) [], Ro.mk _ (Eff.mk (some (100, _)) []) [2], Ro.mk _ (Eff.mk (some (101, _)) []) [2], Ro.mk _ (Eff.mk (some (102, _)) []) [], Ro.mk _ (Eff.mk (some (103, _)) []) [], Ro.mk _ (Eff.mk (some (104, _)) []) [], Ro.mk _ (Eff.mk (some (105, _)) []) [], Ro.mk _ (Eff.mk (some (106, _)) []) [], Ro.mk _ (Eff.mk (some (107, _)) []) [], Ro.mk _ (Eff.mk (some (108, _)) []) [], Ro.mk _ (Eff.mk (some (109, _)) []) [], Ro.mk _ (Eff.mk (some (110, _)) []) [], Ro.mk _ (Eff.mk (some (111, _)) []) [], Ro.mk _ (Eff.mk (some (112, _)) []) [], Ro.mk _ (Eff.mk (some (113, _)) []) [], Ro.mk _ (Eff.mk (some (114, _)) []) [], Ro.mk _ (Eff.mk (some (115, _)) []) []] rfl ⟨(fun _ _ => .move rfl rfl), (fun _ _ => .move rfl rfl), (fun _ _ => .len rfl rfl ⟨_, _, rfl⟩ is24), (fun _ _ => .binv (.bool true) rfl rfl rfl rfl (congrArg Value.bool (decide_eq_true (by omega)))), (fun _ _ => .move rfl rfl), (.inr ⟨83, _, rfl, rfl, rfl, rfl, fun _ _ => .move rfl rfl⟩), (.inr ⟨83, _, rfl, rfl, rfl, rfl, fun _ _ => .move rfl rfl⟩), (.inr ⟨83, _, rfl, rfl, rfl, rfl, fun _ _ => .idx (out[q]) rfl rfl rfl rfl et24 (fun _ => rfl) (Int.natCast_nonneg q) (get_nat hq)⟩), (.inr ⟨83, _, rfl, rfl, rfl, rfl, fun _ _ => .fielde rfl rfl rfl fo32_0⟩), (.inr ⟨83, _, rfl, rfl, rfl, rfl, fun _ _ => .fielde rfl rfl rfl fo30_0⟩), (.inr ⟨83, _, rfl, rfl, rfl, rfl, fun _ _ => .lde rfl rfl rfl rfl tk9⟩), (.inr ⟨83, _, rfl, rfl, rfl, rfl, fun _ _ => .fieldp rfl rfl rfl rfl fo30_0⟩), (.inr ⟨83, _, rfl, rfl, rfl, rfl, fun _ _ => .ldp rfl rfl rfl rfl rfl tk9⟩), (.inr ⟨83, _, rfl, rfl, rfl, rfl, fun _ _ => .binv (.bool false) rfl rfl rfl rfl (congrArg Value.bool (Bool.not_eq_true _ ▸ hle))⟩), (.inr ⟨83, _, rfl, rfl, rfl, rfl, fun _ _ => .move rfl rfl⟩), (.inr ⟨93, _, rfl, rfl, rfl, rfl, fun _ _ => .move rfl rfl⟩), (.inr ⟨93, _, rfl, rfl, rfl, rfl, fun _ _ => .move rfl rfl⟩), (.inr ⟨93, _, rfl, rfl, rfl, rfl, fun _ _ => .idx (out[q]) rfl rfl rfl rfl et24 (fun _ => rfl) (Int.natCast_nonneg q) (get_nat hq)⟩), (.inr ⟨93, _, rfl, rfl, rfl, rfl, fun _ _ => .fielde rfl rfl rfl fo32_0⟩), (.inr ⟨93, _, rfl, rfl, rfl, rfl, fun _ _ => .fielde rfl rfl rfl fo30_0⟩), (.inr ⟨93, _, rfl, rfl, rfl, rfl, fun _ _ => .lde rfl rfl rfl rfl tk9⟩), (.inr ⟨93, _, rfl, rfl, rfl, rfl, fun _ _ => .fieldp rfl rfl rfl rfl fo30_0⟩), (.inr ⟨93, _, rfl, rfl, rfl, rfl, fun _ _ => .ldp rfl rfl rfl rfl rfl tk9⟩), (.inr ⟨93, _, rfl, rfl, rfl, rfl, fun _ _ => .binv (.bool false) rfl rfl rfl rfl (congrArg Value.bool (decide_eq_false hnm))⟩), (.inr ⟨93, _, rfl, rfl, rfl, rfl, fun _ _ => .move rfl rfl⟩), (.inr ⟨103, _, rfl, rfl, rfl, rfl, 104, rfl, rfl, rfl⟩), (.inr ⟨103, _, rfl, rfl, rfl, rfl, 105, rfl, rfl, rfl⟩), (.inr ⟨103, _, rfl, rfl, rfl, rfl, 106, rfl, rfl, rfl⟩), (.inr ⟨103, _, rfl, rfl, rfl, rfl, 107, rfl, rfl, rfl⟩), (.inr ⟨103, _, rfl, rfl, rfl, rfl, 108, rfl, rfl, rfl⟩), (.inr ⟨103, _, rfl, rfl, rfl, rfl, 109, rfl, rfl, rfl⟩), (.inr ⟨103, _, rfl, rfl, rfl, rfl, 110, rfl, rfl, rfl⟩), (.inr ⟨103, _, rfl, rfl, rfl, rfl, 111, rfl, rfl, rfl⟩), (.inr ⟨103, _, rfl, rfl, rfl, rfl, 112, rfl, rfl, rfl⟩), (.inr ⟨93, _, rfl, rfl, rfl, rfl, fun _ _ => .pick rfl rfl rfl⟩), (.inr ⟨83, _, rfl, rfl, rfl, rfl, fun _ _ => .pick rfl rfl rfl⟩), (fun _ _ => .pick rfl rfl rfl), trivial⟩ (by kernel_rfl) ?_
           refine .next ?_
           refine .cond rfl (fun h17 => absurd h17 (by decide)) (fun h17 => ?_)
           refine .exit ?_
           refine TE.pass ?_
           refine TE.pass ?_
           refine TE.here ?_
           refine .next ?_
           refine .draw mixed [Ro.mk _ (Eff.mk (some (118, _)) []) [], Ro.mk _ (Eff.mk (some (119, _)) []) [], Ro.mk _ (Eff.mk (some (120, _)) []) [], Ro.mk _ (Eff.mk (some (121, _)) [(8, _)]) [8], Ro.mk _ (Eff.mk (some (122, _)) []) [2], Ro.mk _ (Eff.mk (some (123, _)) []) [], Ro.mk _ (Eff.mk (some (124, _)) []) [], Ro.mk _ (Eff.mk (some (125, _)) [(9, _)]) [9], Ro.mk _ (Eff.mk (some (126, _)) [(8, .dead), (10, _)]) [8, 9, 10], Ro.mk _ (Eff.mk (some (127, _)) []) [], Ro.mk _ (Eff.mk (some (128, _)) []) [], Ro.mk _ (Eff.mk (some (129, _)) []) [], Ro.mk _ (Eff.mk (some (130, _)) [(10, .dead), (11, _)]) [10, 11], Ro.mk _ (Eff.mk (some (9, _)) []) []] rfl ⟨(fun _ _ => .move rfl rfl), (fun _ _ => .move rfl rfl), (fun _ _ => .slice rfl rfl rfl rfl rfl et24 (fun _ => rfl) (by omega) (by omega) (by omega)), (fun _ _ => .append0 8 rfl rfl rfl ap24 rfl rfl trivial (flat_one (fun _ => rfl) _) (by simp; omega) (by simp; omega)), (fun _ _ => .ldpm rfl rfl rfl rfl rfl rfl tk30), (fun _ _ => .move rfl rfl), (fun _ _ => .build rfl rfl sp32 rfl rfl), (fun _ _ => .buildsl (ds := Kn.dv ⟨b[k].nm, b[k].ver, b[k].key, ep⟩) 9 rfl rfl rfl ap24 zc32 rfl rfl rfl), (fun _ _ => .append 10 rfl rfl rfl (by simp [kn_len, flat_length (sz := 4) (enc := Kn.dv) (fun _ => rfl)]) rfl ap24 rfl rfl (okA_len rfl rfl) rfl (by simp; omega) (by simp; omega)), (fun _ _ => .move rfl rfl), (fun _ _ => .move rfl rfl), (fun _ _ => .slice rfl rfl rfl rfl rfl et24 (fun _ => rfl) (by omega) (by omega) (by omega)), (fun _ _ => .append 11 rfl rfl rfl (by simp [kn_len, flat_length (sz := 4) (enc := Kn.dv) (fun _ => rfl)]; omega) rfl ap24 rfl rfl trivial (flat_one (fun _ => rfl) _) (by simp; omega) (by simp; omega)), (fun _ _ => .assign rfl rfl), trivial⟩ (by kernel_rfl) ?_
           have hsp : insK b[k] ep out = out.take q ++ ⟨b[k].nm, b[k].ver, b[k].key, ep⟩ :: out.drop q := by unfold insK; rw [(while_at hqo hqa hend).1, (while_at hqo hqa hend).2]
           refine TE.frz 9 (slT Kn.dv 4 (insK b[k] ep out)) rfl rfl (by simp [kn_len, flat_length (sz := 4) (enc := Kn.dv) (fun _ => rfl)]; omega) (by rw [hsp]; simp [slT, Kn.dv, En.dv]; try omega) ?_
           refine TE.blk ?_
           refine .next ?_
           refine .region ?_
           refine .step rfl (.move rfl rfl) ?_
           refine .step rfl (.binv (.int .i64 ((k + 1 : Nat) : Int)) rfl rfl rfl rfl (congrArg _ (wrap_succ hkb hb'))) ?_
           refine .step rfl (.assign rfl rfl) ?_
           refine .nil ?_
           exact TE.round id (fun _ _ e => e) ((k + 1, insK b[k] ep out)) ⟨hkb, by show (insK b[k] ep out).length = l.length + (k + 1); rw [insK_len]; omega, by show addGo l ep (b.take (k + 1)) (b.drop (k + 1)) (insK b[k] ep out) = _; rw [← addGo_step hkb hr hver (fun i hi hik => hnot i hi hik)]; exact hx3⟩ (by show b.length - (k + 1) < b.length - k; omega) ⟨⟨rfl, rfl⟩, ⟨rfl, rfl⟩, ⟨rfl, rfl⟩, ⟨rfl, rfl⟩, ⟨rfl, rfl⟩, trivial⟩ ⟨.inl rfl, trivial⟩
        ·skip
         have hend : ∀ hk : q < out.length, lessK out[q] b[k] = false := fun hk => absurd hk hq
         refine .draw mixed [Ro.mk _ (Eff.mk (some (79, _)) []) [], Ro.mk _ (Eff.mk (some (80, _)) []) [], Ro.mk _ (Eff.mk (some (81, _)) []) [], Ro.mk _ (Eff.mk (some (82, _)) []) [], Ro.mk _ (Eff.mk (some (83, _)) []) [], Ro.mk _ (Eff.mk (some (84, _)) []) [], Ro.mk _ (Eff.mk (some (85, _)) []) [], Ro.mk _ (Eff.mk (some (86, _)) []) [], Ro.mk _ (Eff.mk (some (87, _)) []) [], Ro.mk _ (Eff.mk (some (88, _)) []) [], Ro.mk _ (Eff.mk (some (89, _)) []) [], Ro.mk _ (Eff.mk (some (90, _)) []) [], Ro.mk _ (Eff.mk (some (91, _)) []) [], Ro.mk _ (Eff.mk (some (92, _)) []) [], Ro.mk _ (Eff.mk (some (93, _)) []) [], Ro.mk _ (Eff.mk (some (94, _)) []) [], Ro.mk _ (Eff.mk (some (95, _)) []) [], Ro.mk _ (Eff.mk (some (96, _)) []) [], Ro.mk _ (Eff.mk (some (97, _)) []) [], Ro.mk _ (Eff.mk (some (98, _)) []) [], Ro.mk _ (Eff.mk (some (99, _)) []) [], Ro.mk _ (Eff.mk (some (100, _)) []) [], Ro.mk _ (Eff.mk (some (101, _)) []) [], Ro.mk _ (Eff.mk (some (102, _)) []) [], Ro.mk _ (Eff.mk (some (103, _)) []) [], Ro.mk _ (Eff.mk (some (104, _)) []) [], Ro.mk _ (Eff.mk (some (105, _)) []) [], Ro.mk _ (Eff.mk (some (106, _)) []) [], Ro.mk _ (Eff.mk (some (107, _)) []) [], Ro.mk _ (Eff.mk (some (108, _)) []) [], Ro.mk _ (Eff.mk (some (109, _)) []) [], Ro.mk _ (Eff.mk (some (110, _)) []) [], Ro.mk _ (Eff.mk (some (111, _)) []) [], Ro.mk _ (Eff.mk (some (112, _)) []) [], Ro.mk _ (Eff.mk (some (113, _)) []) [], Ro.mk _ (Eff.mk (some (114, _)) []) [], Ro.mk _ (Eff.mk (some (115, _)) []) []] rfl ⟨(fun _ _ => .move rfl rfl), (fun _ _ => .move rfl rfl), (fun _ _ => .len rfl rfl ⟨_, _, rfl⟩ is24), (fun _ _ => .binv (.bool false) rfl rfl rfl rfl (congrArg Value.bool (decide_eq_false (by omega)))), (fun _ _ => .move rfl rfl), (.inr ⟨83, _, rfl, rfl, rfl, rfl, 84, rfl, rfl, rfl⟩), (.inr ⟨83, _, rfl, rfl, rfl, rfl, 85, rfl, rfl, rfl⟩), (.inr ⟨83, _, rfl, rfl, rfl, rfl, 86, rfl, rfl, rfl⟩), (.inr ⟨83, _, rfl, rfl, rfl, rfl, 87, rfl, rfl, rfl⟩), (.inr ⟨83, _, rfl, rfl, rfl, rfl, 88, rfl, rfl, rfl⟩), (.inr ⟨83, _, rfl, rfl, rfl, rfl, 89, rfl, rfl, rfl⟩), (.inr ⟨83, _, rfl, rfl, rfl, rfl, 90, rfl, rfl, rfl⟩), (.inr ⟨83, _, rfl, rfl, rfl, rfl, 91, rfl, rfl, rfl⟩), (.inr ⟨83, _, rfl, rfl, rfl, rfl, 92, rfl, rfl, rfl⟩), (.inr ⟨83, _, rfl, rfl, rfl, rfl, 93, rfl, rfl, rfl⟩), (.inl ⟨93, _, rfl, rfl, rfl, rfl, rfl, rfl⟩), (.inl ⟨93, _, rfl, rfl, rfl, rfl, rfl, rfl⟩), (.inl ⟨93, _, rfl, rfl, rfl, rfl, rfl, rfl⟩), (.inl ⟨93, _, rfl, rfl, rfl, rfl, rfl, rfl⟩), (.inl ⟨93, _, rfl, rfl, rfl, rfl, rfl, rfl⟩), (.inl ⟨93, _, rfl, rfl, rfl, rfl, rfl, rfl⟩), (.inl ⟨93, _, rfl, rfl, rfl, rfl, rfl, rfl⟩), (.inl ⟨93, _, rfl, rfl, rfl, rfl, rfl, rfl⟩), (.inl ⟨93, _, rfl, rfl, rfl, rfl, rfl, rfl⟩), (.inl ⟨93, _, rfl, rfl, rfl, rfl, rfl, rfl⟩), (.inl ⟨103, _, rfl, rfl, rfl, rfl, rfl, rfl⟩), (.inl ⟨103, _, rfl, rfl, rfl, rfl, rfl, rfl⟩), (.inl ⟨103, _, rfl, rfl, rfl, rfl, rfl, rfl⟩), (.inl ⟨103, _, rfl, rfl, rfl, rfl, rfl, rfl⟩), (.inl ⟨103, _, rfl, rfl, rfl, rfl, rfl, rfl⟩), (.inl ⟨103, _, rfl, rfl, rfl, rfl, rfl, rfl⟩), (.inl ⟨103, _, rfl, rfl, rfl, rfl, rfl, rfl⟩), (.inl ⟨103, _, rfl, rfl, rfl, rfl, rfl, rfl⟩), (.inl ⟨103, _, rfl, rfl, rfl, rfl, rfl, rfl⟩), (.inl ⟨93, _, rfl, rfl, rfl, rfl, rfl, rfl⟩), (.inr ⟨83, _, rfl, rfl, rfl, rfl, 114, rfl, rfl, rfl⟩), (fun _ _ => .pick rfl rfl rfl), trivial⟩ (by kernel_rfl) ?_
         refine .next ?_
         refine .cond rfl (fun h18 => absurd h18 (by decide)) (fun h18 => ?_)
         refine .exit ?_
         refine TE.pass ?_
         refine TE.pass ?_
         refine TE.here ?_
         refine .next ?_
         refine .draw mixed [Ro.mk _ (Eff.mk (some (118, _)) []) [], Ro.mk _ (Eff.mk (some (119, _)) []) [], Ro.mk _ (Eff.mk (some (120, _)) []) [], Ro.mk _ (Eff.mk (some (121, _)) [(12, _)]) [12], Ro.mk _ (Eff.mk (some (122, _)) []) [2], Ro.mk _ (Eff.mk (some (123, _)) []) [], Ro.mk _ (Eff.mk (some (124, _)) []) [], Ro.mk _ (Eff.mk (some (125, _)) [(13, _)]) [13], Ro.mk _ (Eff.mk (some (126, _)) [(12, .dead), (14, _)]) [12, 13, 14], Ro.mk _ (Eff.mk (some (127, _)) []) [], Ro.mk _ (Eff.mk (some (128, _)) []) [], Ro.mk _ (Eff.mk (some (129, _)) []) [], Ro.mk _ (Eff.mk (some (130, _)) [(14, .dead), (15, _)]) [14, 15], Ro.mk _ (Eff.mk (some (9, _)) []) []] rfl ⟨(fun _ _ => .move rfl rfl), (fun _ _ => .move rfl rfl), (fun _ _ => .slice rfl rfl rfl rfl rfl et24 (fun _ => rfl) (by omega) (by omega) (by omega)), (fun _ _ => .append0 12 rfl rfl rfl ap24 rfl rfl trivial (flat_one (fun _ => rfl) _) (by simp; omega) (by simp; omega)), (fun _ _ => .ldpm rfl rfl rfl rfl rfl rfl tk30), (fun _ _ => .move rfl rfl), (fun _ _ => .build rfl rfl sp32 rfl rfl), (fun _ _ => .buildsl (ds := Kn.dv ⟨b[k].nm, b[k].ver, b[k].key, ep⟩) 13 rfl rfl rfl ap24 zc32 rfl rfl rfl), (fun _ _ => .append 14 rfl rfl rfl (by simp [kn_len, flat_length (sz := 4) (enc := Kn.dv) (fun _ => rfl)]) rfl ap24 rfl rfl (okA_len rfl rfl) rfl (by simp; omega) (by simp; omega)), (fun _ _ => .move rfl rfl), (fun _ _ => .move rfl rfl), (fun _ _ => .slice rfl rfl rfl rfl rfl et24 (fun _ => rfl) (by omega) (by omega) (by omega)), (fun _ _ => .append 15 rfl rfl rfl (by simp [kn_len, flat_length (sz := 4) (enc := Kn.dv) (fun _ => rfl)]; omega) rfl ap24 rfl rfl trivial (flat_one (fun _ => rfl) _) (by simp; omega) (by simp; omega)), (fun _ _ => .assign rfl rfl), trivial⟩ (by kernel_rfl) ?_
         have hsp : insK b[k] ep out = out.take q ++ ⟨b[k].nm, b[k].ver, b[k].key, ep⟩ :: out.drop q := by unfold insK; rw [(while_at hqo hqa hend).1, (while_at hqo hqa hend).2]
         refine TE.frz 9 (slT Kn.dv 4 (insK b[k] ep out)) rfl rfl (by simp [kn_len, flat_length (sz := 4) (enc := Kn.dv) (fun _ => rfl)]; omega) (by rw [hsp]; simp [slT, Kn.dv, En.dv]; try omega) ?_
         refine TE.blk ?_
         refine .next ?_
         refine .region ?_
         refine .step rfl (.move rfl rfl) ?_
         refine .step rfl (.binv (.int .i64 ((k + 1 : Nat) : Int)) rfl rfl rfl rfl (congrArg _ (wrap_succ hkb hb'))) ?_
         refine .step rfl (.assign rfl rfl) ?_
         refine .nil ?_
         exact TE.round id (fun _ _ e => e) ((k + 1, insK b[k] ep out)) ⟨hkb, by show (insK b[k] ep out).length = l.length + (k + 1); rw [insK_len]; omega, by show addGo l ep (b.take (k + 1)) (b.drop (k + 1)) (insK b[k] ep out) = _; rw [← addGo_step hkb hr hver (fun i hi hik => hnot i hi hik)]; exact hx3⟩ (by show b.length - (k + 1) < b.length - k; omega) ⟨⟨rfl, rfl⟩, ⟨rfl, rfl⟩, ⟨rfl, rfl⟩, ⟨rfl, rfl⟩, ⟨rfl, rfl⟩, trivial⟩ ⟨.inl rfl, trivial⟩
    ·skip
     have hge : k = b.length := by have q : ¬ ((k : Int) < (b.length : Int)) := of_decide_eq_false h4; omega
     refine .exit ?_
     refine TE.pass ?_
     refine TE.pass ?_
     refine TE.here ?_
     refine .next ?_
     refine .seq ?_
     refine .region ?_
     refine .step rfl (.move rfl rfl) ?_
     refine .step rfl (.assign rfl rfl) ?_
     refine .step rfl (.assign rfl rfl) ?_
     refine .nil ?_
     refine .next ?_
     refine .ret ?_
     have e : addR l ep b = (out, true) := by rw [← hx3, hge, List.drop_length]; rfl
     rw [e]
     exact TE.rettc rfl rfl rfl

end Go.Proofs.Ythidepbffhhkmaa
