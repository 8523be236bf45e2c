/-
  The library's comparisons; the order of what is known.
-/
import Derived.Test.YtkkgjmfnlabbdaaDt
namespace Go.Proofs.Ytkkgjmfnlabbdaa
set_option linter.unusedVariables false
set_option linter.unusedSimpArgs false
open Go.RowKit Pl

theorem ap98 : apt Try.prog 98 = some (3, 1, 8) := by kernel_rfl
theorem cf62 : cfn Try.prog 62 = true := by kernel_rfl
theorem cf63 : cfn Try.prog 63 = true := by kernel_rfl
theorem cf64 : cfn Try.prog 64 = true := by kernel_rfl
theorem cf72 : cfn Try.prog 72 = true := by kernel_rfl
theorem cf73 : cfn Try.prog 73 = true := by kernel_rfl
theorem et98 : elt Try.prog 98 = some (3, 1) := by kernel_rfl
theorem fo48_0 : fo Try.prog 48 0 = some 0 := by kernel_rfl
theorem fo48_1 : fo Try.prog 48 1 = some 1 := by kernel_rfl
theorem fo50_0 : fo Try.prog 50 0 = some 0 := by kernel_rfl
theorem is98 : isSl Try.prog 98 = some true := by kernel_rfl
theorem mixed : Try.prog.follows .mixedOrders = true := by kernel_rfl
theorem tk3 : tyk Try.prog 3 = some none := by kernel_rfl
theorem tk9 : tyk Try.prog 9 = some none := by kernel_rfl
theorem zc3 : zc Try.prog 3 = some [.int .i64 0] := by kernel_rfl

set_option maxRecDepth 100000 in
set_option maxHeartbeats 1600000 in
theorem nan_s (a : List UInt8) : PF Try.prog 72 [.v (strV a)] (.v (.bool false)) := by
  refine PF.enter (fn := Try.f72) Try.func72 rfl Try.ntmps72 rfl (fun w0 => ?_)
  refine .seq ?_
  refine .region ?_
  refine .step rfl (.assign rfl rfl) ?_
  refine .nil ?_
  refine .next ?_
  refine .seq ?_
  refine .region ?_
  refine .step rfl (.move rfl rfl) ?_
  refine .step rfl (.move rfl rfl) ?_
  refine .step rfl (.binv (.bool false) rfl rfl rfl rfl (by simp)) ?_
  refine .step rfl (.assign rfl rfl) ?_
  refine .nil ?_
  refine .next ?_
  refine .ret ?_
  exact TE.retf rfl rfl rfl trivial

set_option maxRecDepth 100000 in
set_option maxHeartbeats 1600000 in
theorem cmp_s (a b : List UInt8) : PF Try.prog 63 [.v (strV a), .v (strV b)] (.v (.int .i64 (cmpS a b))) := by
  refine PF.enter (fn := Try.f63) Try.func63 rfl Try.ntmps63 rfl (fun w0 => ?_)
  refine .seq ?_
  refine .region ?_
  refine .step rfl (.assign rfl rfl) ?_
  refine .nil ?_
  refine .next ?_
  refine .seq ?_
  refine .region ?_
  refine .step rfl (.move rfl rfl) ?_
  refine .step rfl (.callf rfl cf72 rfl ⟨trivial, trivial⟩ (nan_s _)) ?_
  refine .step rfl (.assign rfl rfl) ?_
  refine .nil ?_
  refine .next ?_
  refine .seq ?_
  refine .region ?_
  refine .step rfl (.move rfl rfl) ?_
  refine .step rfl (.callf rfl cf72 rfl ⟨trivial, trivial⟩ (nan_s _)) ?_
  refine .step rfl (.assign rfl rfl) ?_
  refine .nil ?_
  refine .next ?_
  refine .seq ?_
  refine .seq ?_
  refine .region ?_
  refine .step rfl (.move rfl rfl) ?_
  refine .nil ?_
  refine .next ?_
  refine .cond rfl (fun h1 => absurd h1 (by decide)) (fun h1 => ?_)
  refine .skip ?_
  refine .next ?_
  refine .seq ?_
  refine .seq ?_
  refine .region ?_
  refine .step rfl (.move rfl rfl) ?_
  refine .nil ?_
  refine .next ?_
  refine .cond rfl (fun h2 => absurd h2 (by decide)) (fun h2 => ?_)
  refine .skip ?_
  refine .next ?_
  refine .seq ?_
  refine .seq ?_
  refine .region ?_
  refine .step rfl (.move rfl rfl) ?_
  refine .step rfl (.move rfl rfl) ?_
  refine .step rfl (.bin rfl rfl rfl rfl) ?_
  refine .nil ?_
  refine .next ?_
  refine .cond rfl (fun h3 => ?_) (fun h3 => ?_)
  · skip
    have h3 := h3
    refine .seq ?_
    refine .region ?_
    refine .step rfl (.assign rfl rfl) ?_
    refine .nil ?_
    refine .next ?_
    refine .ret ?_
    have e : cmpS a b = -1 := by unfold cmpS; rw [if_pos h3]
    rw [e]
    exact TE.retf rfl rfl rfl trivial
  · skip
    have h3 := h3
    refine .skip ?_
    refine .next ?_
    refine .seq ?_
    refine .seq ?_
    refine .region ?_
    refine .step rfl (.move rfl rfl) ?_
    refine .step rfl (.move rfl rfl) ?_
    refine .step rfl (.bin rfl rfl rfl rfl) ?_
    refine .nil ?_
    refine .next ?_
    refine .cond rfl (fun h4 => ?_) (fun h4 => ?_)
    · skip
      have h4 := h4
      refine .seq ?_
      refine .region ?_
      refine .step rfl (.assign rfl rfl) ?_
      refine .nil ?_
      refine .next ?_
      refine .ret ?_
      have e : cmpS a b = 1 := by unfold cmpS; simp only [Bool.not_eq_true', Bool.or_eq_false_iff, decide_eq_false_iff_not] at h4; simp [h4.1, h4.2]
      rw [e]
      exact TE.retf rfl rfl rfl trivial
    · skip
      have h4 := h4
      refine .skip ?_
      refine .next ?_
      refine .seq ?_
      refine .region ?_
      refine .step rfl (.assign rfl rfl) ?_
      refine .nil ?_
      refine .next ?_
      refine .ret ?_
      have e : cmpS a b = 0 := by unfold cmpS; simp only [Bool.not_eq_false', Bool.or_eq_true, decide_eq_true_eq] at h4; rw [h3] at h4; simp at h4; rw [if_neg (by rw [h3]; simp), if_pos h4]
      rw [e]
      exact TE.retf rfl rfl rfl trivial

set_option maxRecDepth 100000 in
set_option maxHeartbeats 1600000 in
theorem nan_i (a : Int) : PF Try.prog 73 [.v (.int .i64 a)] (.v (.bool false)) := by
  refine PF.enter (fn := Try.f73) Try.func73 rfl Try.ntmps73 rfl (fun w0 => ?_)
  refine .seq ?_
  refine .region ?_
  refine .step rfl (.assign rfl rfl) ?_
  refine .nil ?_
  refine .next ?_
  refine .seq ?_
  refine .region ?_
  refine .step rfl (.move rfl rfl) ?_
  refine .step rfl (.move rfl rfl) ?_
  refine .step rfl (.binv (.bool false) rfl rfl rfl rfl (by simp)) ?_
  refine .step rfl (.assign rfl rfl) ?_
  refine .nil ?_
  refine .next ?_
  refine .ret ?_
  exact TE.retf rfl rfl rfl trivial

set_option maxRecDepth 100000 in
set_option maxHeartbeats 1600000 in
theorem cmp_i (a b : Int) : PF Try.prog 64 [.v (.int .i64 a), .v (.int .i64 b)] (.v (.int .i64 (cmpI a b))) := by
  refine PF.enter (fn := Try.f64) Try.func64 rfl Try.ntmps64 rfl (fun w0 => ?_)
  refine .seq ?_
  refine .region ?_
  refine .step rfl (.assign rfl rfl) ?_
  refine .nil ?_
  refine .next ?_
  refine .seq ?_
  refine .region ?_
  refine .step rfl (.move rfl rfl) ?_
  refine .step rfl (.callf rfl cf73 rfl ⟨trivial, trivial⟩ (nan_i _)) ?_
  refine .step rfl (.assign rfl rfl) ?_
  refine .nil ?_
  refine .next ?_
  refine .seq ?_
  refine .region ?_
  refine .step rfl (.move rfl rfl) ?_
  refine .step rfl (.callf rfl cf73 rfl ⟨trivial, trivial⟩ (nan_i _)) ?_
  refine .step rfl (.assign rfl rfl) ?_
  refine .nil ?_
  refine .next ?_
  refine .seq ?_
  refine .seq ?_
  refine .region ?_
  refine .step rfl (.move rfl rfl) ?_
  refine .nil ?_
  refine .next ?_
  refine .cond rfl (fun h1 => absurd h1 (by decide)) (fun h1 => ?_)
  refine .skip ?_
  refine .next ?_
  refine .seq ?_
  refine .seq ?_
  refine .region ?_
  refine .step rfl (.move rfl rfl) ?_
  refine .nil ?_
  refine .next ?_
  refine .cond rfl (fun h2 => absurd h2 (by decide)) (fun h2 => ?_)
  refine .skip ?_
  refine .next ?_
  refine .seq ?_
  refine .seq ?_
  refine .region ?_
  refine .step rfl (.move rfl rfl) ?_
  refine .step rfl (.move rfl rfl) ?_
  refine .step rfl (.bin rfl rfl rfl rfl) ?_
  refine .nil ?_
  refine .next ?_
  refine .cond rfl (fun h3 => ?_) (fun h3 => ?_)
  · skip
    have h3 := h3
    refine .seq ?_
    refine .region ?_
    refine .step rfl (.assign rfl rfl) ?_
    refine .nil ?_
    refine .next ?_
    refine .ret ?_
    have e : cmpI a b = -1 := by unfold cmpI; rw [if_pos (of_decide_eq_true h3)]
    rw [e]
    exact TE.retf rfl rfl rfl trivial
  · skip
    have h3 := h3
    refine .skip ?_
    refine .next ?_
    refine .seq ?_
    refine .seq ?_
    refine .region ?_
    refine .step rfl (.move rfl rfl) ?_
    refine .step rfl (.move rfl rfl) ?_
    refine .step rfl (.bin rfl rfl rfl rfl) ?_
    refine .nil ?_
    refine .next ?_
    refine .cond rfl (fun h4 => ?_) (fun h4 => ?_)
    · skip
      have h4 := h4
      refine .seq ?_
      refine .region ?_
      refine .step rfl (.assign rfl rfl) ?_
      refine .nil ?_
      refine .next ?_
      refine .ret ?_
      have e : cmpI a b = 1 := by unfold cmpI; have h3' := of_decide_eq_false h3; have h4' := of_decide_eq_true h4; rw [if_neg h3', if_pos h4']
      rw [e]
      exact TE.retf rfl rfl rfl trivial
    · skip
      have h4 := h4
      refine .skip ?_
      refine .next ?_
      refine .seq ?_
      refine .region ?_
      refine .step rfl (.assign rfl rfl) ?_
      refine .nil ?_
      refine .next ?_
      refine .ret ?_
      have e : cmpI a b = 0 := by unfold cmpI; have h3' := of_decide_eq_false h3; have h4' := of_decide_eq_false h4; rw [if_neg h3', if_neg h4']
      rw [e]
      exact TE.retf rfl rfl rfl trivial

set_option maxRecDepth 100000 in
set_option maxHeartbeats 1600000 in
theorem or_any (l : List Int) (hl : l.length ≤ 140737488355328) : PF Try.prog 62 [slT (fun x : Int => [DV.v (.int .i64 x)]) 1 l] (.v (.int .i64 (orF l))) := by
  refine PF.enter (fn := Try.f62) Try.func62 rfl Try.ntmps62 rfl (fun w0 => ?_)
  refine .seq ?_
  refine .region ?_
  refine .step rfl (.assign rfl rfl) ?_
  refine .nil ?_
  refine .next ?_
  refine .seq ?_
  refine .region ?_
  refine .step rfl (.assign rfl rfl) ?_
  refine .nil ?_
  refine .next ?_
  refine .seq ?_
  refine .seq ?_
  refine .region ?_
  refine .step rfl (.move rfl rfl) ?_
  refine .step rfl (.len rfl rfl ⟨_, _, rfl⟩ is98) ?_
  refine .step rfl (.move rfl rfl) ?_
  refine .nil ?_
  refine .next ?_
  refine .block ?_
  refine TC.loop (S := Nat) (fun k => k ≤ l.length ∧ orF (l.drop k) = orF l) (fun k => l.length - k) (fun k => [(0, .d (slT (fun x : Int => [DV.v (.int .i64 x)]) 1 l)), (2, .f (.v (.int .i64 0))), (3, .f (.v (.int .i64 0))), (6, .d (slT (fun x : Int => [DV.v (.int .i64 x)]) 1 l)), (7, .f (.v (.int .i64 l.length))), (8, .f (.v (.int .i64 k)))]) (fun k => []) (0) ⟨Nat.zero_le _, rfl⟩ ⟨⟨rfl, rfl⟩, ⟨rfl, rfl⟩, ⟨rfl, rfl⟩, ⟨rfl, rfl⟩, ⟨rfl, rfl⟩, ⟨rfl, rfl⟩, trivial⟩ trivial (fun k hI => ?_)
  obtain ⟨hk, hr⟩ := hI
  refine .seq ?_
  refine .region ?_
  refine .step rfl (.bin rfl rfl rfl rfl) ?_
  refine .nil ?_
  refine .next ?_
  refine .seq ?_
  refine .cond rfl (fun h1 => ?_) (fun h1 => ?_)
  · skip
    have hlt : k < l.length := by have := of_decide_eq_true h1; omega
    have hd : l.drop k = l[k] :: l.drop (k + 1) := (List.getElem_cons_drop hlt).symm
    refine .skip ?_
    refine .next ?_
    refine .seq ?_
    refine .block ?_
    refine .seq ?_
    refine .region ?_
    refine .step rfl (.idx (l[k]) rfl rfl rfl rfl et98 (fun _ => rfl) (Int.natCast_nonneg k) (get_nat hlt)) ?_
    refine .step rfl (.lde rfl rfl rfl rfl tk3) ?_
    refine .step rfl (.assign rfl rfl) ?_
    refine .nil ?_
    refine .next ?_
    refine .seq ?_
    refine .region ?_
    refine .step rfl (.move rfl rfl) ?_
    refine .step rfl (.move rfl rfl) ?_
    refine .step rfl (.bin rfl rfl rfl rfl) ?_
    refine .nil ?_
    refine .next ?_
    refine .cond rfl (fun h2 => ?_) (fun h2 => ?_)
    · skip
      have hz : ¬ l[k] = 0 := by simpa using h2
      have hz' : orF l = l[k] := by rw [← hr, hd, orF, if_neg hz]
      refine .seq ?_
      refine .region ?_
      refine .step rfl (.move rfl rfl) ?_
      refine .step rfl (.assign rfl rfl) ?_
      refine .nil ?_
      refine .next ?_
      refine .ret ?_
      rw [hz']
      exact TE.retf rfl rfl rfl (pl_v _)
    · skip
      have hz : l[k] = 0 := by simpa using h2
      refine .skip ?_
      refine TE.blk ?_
      refine .next ?_
      refine .region ?_
      refine .step rfl (.binv (.int .i64 ((k + 1 : Nat) : Int)) rfl rfl rfl rfl (congrArg _ (wrap_succ hlt hl))) ?_
      refine .step rfl (.move rfl rfl) ?_
      refine .nil ?_
      exact TE.round id (fun _ _ e => e) (k + 1) ⟨hlt, by rw [← hr, hd, orF, if_pos hz]⟩ (by omega) ⟨⟨rfl, rfl⟩, ⟨rfl, rfl⟩, ⟨rfl, rfl⟩, ⟨rfl, rfl⟩, ⟨rfl, rfl⟩, ⟨rfl, rfl⟩, trivial⟩ trivial
  · skip
    have hlt : k = l.length := by have h0 := of_decide_eq_false h1; have h1 : k ≤ l.length := hk; omega
    have hz : orF l = 0 := by rw [← hr, hlt, List.drop_length]; rfl
    refine .exit ?_
    refine TE.pass ?_
    refine TE.pass ?_
    refine TE.here ?_
    refine .next ?_
    refine .seq ?_
    refine .region ?_
    refine .step rfl (.move rfl rfl) ?_
    refine .step rfl (.assign rfl rfl) ?_
    refine .nil ?_
    refine .next ?_
    refine .ret ?_
    rw [hz]
    exact TE.retf rfl rfl rfl trivial

set_option maxRecDepth 100000 in
set_option maxHeartbeats 1600000 in
theorem order_any (k : Kn) (e : En) : PF Try.prog 49 [.ag k.dv, .ag e.dv] (.v (.int .i64 (ordF e.nm e.ver k))) := by
  refine PF.enter (fn := Try.f49) Try.func49 rfl Try.ntmps49 rfl (fun w0 => ?_)
  refine .seq ?_
  refine .region ?_
  refine .step rfl (.box 1 rfl rfl rfl rfl) ?_
  refine .step rfl (.box 2 rfl rfl rfl rfl) ?_
  refine .step rfl (.assign rfl rfl) ?_
  refine .nil ?_
  refine .next ?_
  refine .seq ?_
  refine .draw mixed [Ro.mk _ (Eff.mk (some (5, _)) []) [1], Ro.mk _ (Eff.mk (some (6, _)) []) [1], Ro.mk _ (Eff.mk (some (7, _)) []) [1], Ro.mk _ (Eff.mk (some (8, _)) []) [2], Ro.mk _ (Eff.mk (some (9, _)) []) [2], Ro.mk _ (Eff.mk (some (10, _)) []) [], Ro.mk _ (Eff.mk (some (11, _)) []) [1], Ro.mk _ (Eff.mk (some (12, _)) []) [1], Ro.mk _ (Eff.mk (some (13, _)) []) [1], Ro.mk _ (Eff.mk (some (14, _)) []) [2], Ro.mk _ (Eff.mk (some (15, _)) []) [2], Ro.mk _ (Eff.mk (some (16, _)) []) [], Ro.mk _ (Eff.mk (some (17, _)) [(3, _)]) [3], Ro.mk _ (Eff.mk (some (18, _)) []) [3], Ro.mk _ (Eff.mk (some (4, _)) []) []] rfl ⟨(fun _ _ => .fieldp rfl rfl rfl rfl fo50_0), (fun _ _ => .fieldp rfl rfl rfl rfl fo48_0), (fun _ _ => .ldp rfl rfl rfl rfl rfl tk9), (fun _ _ => .fieldp rfl rfl rfl rfl fo48_0), (fun _ _ => .ldp rfl rfl rfl rfl rfl tk9), (fun _ _ => .callf rfl cf63 rfl ⟨trivial, trivial, trivial⟩ (cmp_s _ _)), (fun _ _ => .fieldp rfl rfl rfl rfl fo50_0), (fun _ _ => .fieldp rfl rfl rfl rfl fo48_1), (fun _ _ => .ldp rfl rfl rfl rfl rfl tk3), (fun _ _ => .fieldp rfl rfl rfl rfl fo48_1), (fun _ _ => .ldp rfl rfl rfl rfl rfl tk3), (fun _ _ => .callf rfl cf64 rfl ⟨trivial, trivial, trivial⟩ (cmp_i _ _)), (fun _ _ => .buildsl 3 rfl rfl rfl ap98 zc3 rfl rfl rfl), (fun _ _ => .callf rfl cf62 rfl ⟨okA_len rfl rfl, trivial⟩ (or_any [cmpS k.nm e.nm, cmpI k.ver e.ver] (by simp))), (fun _ _ => .assign rfl rfl), trivial⟩ (by kernel_rfl) ?_
  refine .next ?_
  refine .ret ?_
  exact TE.retf rfl rfl rfl trivial

end Go.Proofs.Ytkkgjmfnlabbdaa
