/-
  The library's comparisons; the order of what is known.
-/
import Derived.Test.YthidepbffhhkmaaIa
import Derived.Test.YthidepbffhhkmaaEa
namespace Go.Proofs.Ythidepbffhhkmaa
set_option linter.unusedVariables false
set_option linter.unusedSimpArgs false
open Go.RowKit Pl

theorem ap52 : apt Try.prog 52 = some (3, 1, 8) := by kernel_rfl
theorem cf64 : cfn Try.prog 64 = true := by kernel_rfl
theorem cf65 : cfn Try.prog 65 = true := by kernel_rfl
theorem cf66 : cfn Try.prog 66 = true := by kernel_rfl
theorem cf76 : cfn Try.prog 76 = true := by kernel_rfl
theorem cf77 : cfn Try.prog 77 = true := by kernel_rfl
theorem et52 : elt Try.prog 52 = some (3, 1) := by kernel_rfl
theorem fo32_0 : fo Try.prog 32 0 = some 0 := by kernel_rfl
theorem is52 : isSl Try.prog 52 = some true := by kernel_rfl
theorem zc3 : zc Try.prog 3 = some [.int .i64 0] := by kernel_rfl

set_option maxRecDepth 100000 in
set_option maxHeartbeats 1600000 in
theorem nan_s (a : List UInt8) : PF Try.prog 76 [.v (strV a)] (.v (.bool false)) := by
  refine PF.enter (fn := Try.f76) Try.func76 rfl Try.ntmps76 rfl (fun w0 => ?_)
  refine .seq ?_
  refine .region ?_
  refine .step rfl (.assign rfl rfl) ?_
  refine .nil ?_
  refine .next ?_
  refine .seq ?_
  refine .region ?_
  refine .step rfl (.move rfl rfl) ?_
  refine .step rfl (.move rfl rfl) ?_
  refine .step rfl (.binv (.bool false) rfl rfl rfl rfl (by simp)) ?_
  refine .step rfl (.assign rfl rfl) ?_
  refine .nil ?_
  refine .next ?_
  refine .ret ?_
  exact TE.retf rfl rfl rfl trivial

set_option maxRecDepth 100000 in
set_option maxHeartbeats 1600000 in
theorem cmp_s (a b : List UInt8) : PF Try.prog 65 [.v (strV a), .v (strV b)] (.v (.int .i64 (cmpS a b))) := by
  refine PF.enter (fn := Try.f65) Try.func65 rfl Try.ntmps65 rfl (fun w0 => ?_)
  refine .seq ?_
  refine .region ?_
  refine .step rfl (.assign rfl rfl) ?_
  refine .nil ?_
  refine .next ?_
  refine .seq ?_
  refine .region ?_
  refine .step rfl (.move rfl rfl) ?_
  refine .step rfl (.callf rfl cf76 rfl ⟨trivial, trivial⟩ (nan_s _)) ?_
  refine .step rfl (.assign rfl rfl) ?_
  refine .nil ?_
  refine .next ?_
  refine .seq ?_
  refine .region ?_
  refine .step rfl (.move rfl rfl) ?_
  refine .step rfl (.callf rfl cf76 rfl ⟨trivial, trivial⟩ (nan_s _)) ?_
  refine .step rfl (.assign rfl rfl) ?_
  refine .nil ?_
  refine .next ?_
  refine .seq ?_
  refine .seq ?_
  refine .region ?_
  refine .step rfl (.move rfl rfl) ?_
  refine .nil ?_
  refine .next ?_
  refine .cond rfl (fun h1 => absurd h1 (by decide)) (fun h1 => ?_)
  refine .skip ?_
  refine .next ?_
  refine .seq ?_
  refine .seq ?_
  refine .region ?_
  refine .step rfl (.move rfl rfl) ?_
  refine .nil ?_
  refine .next ?_
  refine .cond rfl (fun h2 => absurd h2 (by decide)) (fun h2 => ?_)
  refine .skip ?_
  refine .next ?_
  refine .seq ?_
  refine .seq ?_
  refine .region ?_
  refine .step rfl (.move rfl rfl) ?_
  refine .step rfl (.move rfl rfl) ?_
  refine .step rfl (.bin rfl rfl rfl rfl) ?_
  refine .nil ?_
  refine .next ?_
  refine .cond rfl (fun h3 => ?_) (fun h3 => ?_)
  ·skip
   have h3 := h3
   refine .seq ?_
   refine .region ?_
   refine .step rfl (.assign rfl rfl) ?_
   refine .nil ?_
   refine .next ?_
   refine .ret ?_
   have e : cmpS a b = -1 := by unfold cmpS; rw [if_pos h3]
   rw [e]
   exact TE.retf rfl rfl rfl trivial
  ·skip
   have h3 := h3
   refine .skip ?_
   refine .next ?_
   refine .seq ?_
   refine .seq ?_
   refine .region ?_
   refine .step rfl (.move rfl rfl) ?_
   refine .step rfl (.move rfl rfl) ?_
   refine .step rfl (.bin rfl rfl rfl rfl) ?_
   refine .nil ?_
   refine .next ?_
   refine .cond rfl (fun h4 => ?_) (fun h4 => ?_)
   ·skip
    have h4 := h4
    refine .seq ?_
    refine .region ?_
    refine .step rfl (.assign rfl rfl) ?_
    refine .nil ?_
    refine .next ?_
    refine .ret ?_
    have e : cmpS a b = 1 := by unfold cmpS; simp only [Bool.not_eq_true', Bool.or_eq_false_iff, decide_eq_false_iff_not] at h4; simp [h4.1, h4.2]
    rw [e]
    exact TE.retf rfl rfl rfl trivial
   ·skip
    have h4 := h4
    refine .skip ?_
    refine .next ?_
    refine .seq ?_
    refine .region ?_
    refine .step rfl (.assign rfl rfl) ?_
    refine .nil ?_
    refine .next ?_
    refine .ret ?_
    have e : cmpS a b = 0 := by unfold cmpS; simp only [Bool.not_eq_false', Bool.or_eq_true, decide_eq_true_eq] at h4; rw [h3] at h4; simp at h4; rw [if_neg (by rw [h3]; simp), if_pos h4]
    rw [e]
    exact TE.retf rfl rfl rfl trivial

set_option maxRecDepth 100000 in
set_option maxHeartbeats 1600000 in
theorem nan_i (a : Int) : PF Try.prog 77 [.v (.int .i64 a)] (.v (.bool false)) := by
  refine PF.enter (fn := Try.f77) Try.func77 rfl Try.ntmps77 rfl (fun w0 => ?_)
  refine .seq ?_
  refine .region ?_
  refine .step rfl (.assign rfl rfl) ?_
  refine .nil ?_
  refine .next ?_
  refine .seq ?_
  refine .region ?_
  refine .step rfl (.move rfl rfl) ?_
  refine .step rfl (.move rfl rfl) ?_
  refine .step rfl (.binv (.bool false) rfl rfl rfl rfl (by simp)) ?_
  refine .step rfl (.assign rfl rfl) ?_
  refine .nil ?_
  refine .next ?_
  refine .ret ?_
  exact TE.retf rfl rfl rfl trivial

set_option maxRecDepth 100000 in
set_option maxHeartbeats 1600000 in
theorem cmp_i (a b : Int) : PF Try.prog 66 [.v (.int .i64 a), .v (.int .i64 b)] (.v (.int .i64 (cmpI a b))) := by
  refine PF.enter (fn := Try.f66) Try.func66 rfl Try.ntmps66 rfl (fun w0 => ?_)
  refine .seq ?_
  refine .region ?_
  refine .step rfl (.assign rfl rfl) ?_
  refine .nil ?_
  refine .next ?_
  refine .seq ?_
  refine .region ?_
  refine .step rfl (.move rfl rfl) ?_
  refine .step rfl (.callf rfl cf77 rfl ⟨trivial, trivial⟩ (nan_i _)) ?_
  refine .step rfl (.assign rfl rfl) ?_
  refine .nil ?_
  refine .next ?_
  refine .seq ?_
  refine .region ?_
  refine .step rfl (.move rfl rfl) ?_
  refine .step rfl (.callf rfl cf77 rfl ⟨trivial, trivial⟩ (nan_i _)) ?_
  refine .step rfl (.assign rfl rfl) ?_
  refine .nil ?_
  refine .next ?_
  refine .seq ?_
  refine .seq ?_
  refine .region ?_
  refine .step rfl (.move rfl rfl) ?_
  refine .nil ?_
  refine .next ?_
  refine .cond rfl (fun h1 => absurd h1 (by decide)) (fun h1 => ?_)
  refine .skip ?_
  refine .next ?_
  refine .seq ?_
  refine .seq ?_
  refine .region ?_
  refine .step rfl (.move rfl rfl) ?_
  refine .nil ?_
  refine .next ?_
  refine .cond rfl (fun h2 => absurd h2 (by decide)) (fun h2 => ?_)
  refine .skip ?_
  refine .next ?_
  refine .seq ?_
  refine .seq ?_
  refine .region ?_
  refine .step rfl (.move rfl rfl) ?_
  refine .step rfl (.move rfl rfl) ?_
  refine .step rfl (.bin rfl rfl rfl rfl) ?_
  refine .nil ?_
  refine .next ?_
  refine .cond rfl (fun h3 => ?_) (fun h3 => ?_)
  ·skip
   have h3 := h3
   refine .seq ?_
   refine .region ?_
   refine .step rfl (.assign rfl rfl) ?_
   refine .nil ?_
   refine .next ?_
   refine .ret ?_
   have e : cmpI a b = -1 := by unfold cmpI; rw [if_pos (of_decide_eq_true h3)]
   rw [e]
   exact TE.retf rfl rfl rfl trivial
  ·skip
   have h3 := h3
   refine .skip ?_
   refine .next ?_
   refine .seq ?_
   refine .seq ?_
   refine .region ?_
   refine .step rfl (.move rfl rfl) ?_
   refine .step rfl (.move rfl rfl) ?_
   refine .step rfl (.bin rfl rfl rfl rfl) ?_
   refine .nil ?_
   refine .next ?_
   refine .cond rfl (fun h4 => ?_) (fun h4 => ?_)
   ·skip
    have h4 := h4
    refine .seq ?_
    refine .region ?_
    refine .step rfl (.assign rfl rfl) ?_
    refine .nil ?_
    refine .next ?_
    refine .ret ?_
    have e : cmpI a b = 1 := by unfold cmpI; have h3' := of_decide_eq_false h3; have h4' := of_decide_eq_true h4; rw [if_neg h3', if_pos h4']
    rw [e]
    exact TE.retf rfl rfl rfl trivial
   ·skip
    have h4 := h4
    refine .skip ?_
    refine .next ?_
    refine .seq ?_
    refine .region ?_
    refine .step rfl (.assign rfl rfl) ?_
    refine .nil ?_
    refine .next ?_
    refine .ret ?_
    have e : cmpI a b = 0 := by unfold cmpI; have h3' := of_decide_eq_false h3; have h4' := of_decide_eq_false h4; rw [if_neg h3', if_neg h4']
    rw [e]
    exact TE.retf rfl rfl rfl trivial

set_option maxRecDepth 100000 in
set_option maxHeartbeats 1600000 in
theorem or_any (l : List Int) (hl : l.length ≤ 140737488355328) : PF Try.prog 64 [slT (fun x : Int => [DV.v (.int .i64 x)]) 1 l] (.v (.int .i64 (orF l))) := by
  refine PF.enter (fn := Try.f64) Try.func64 rfl Try.ntmps64 rfl (fun w0 => ?_)
  refine .seq ?_
  refine .region ?_
  refine .step rfl (.assign rfl rfl) ?_
  refine .nil ?_
  refine .next ?_
  refine .seq ?_
  refine .region ?_
  refine .step rfl (.assign rfl rfl) ?_
  refine .nil ?_
  refine .next ?_
  refine .seq ?_
  refine .seq ?_
  refine .region ?_
  refine .step rfl (.move rfl rfl) ?_
  refine .step rfl (.len rfl rfl ⟨_, _, rfl⟩ is52) ?_
  refine .step rfl (.move rfl rfl) ?_
  refine .nil ?_
  refine .next ?_
  refine .block ?_
  refine TC.loop (S := Nat) (fun k => k ≤ l.length ∧ orF (l.drop k) = orF l) (fun k => l.length - k) (fun k => [(0, .d (slT (fun x : Int => [DV.v (.int .i64 x)]) 1 l)), (2, .f (.v (.int .i64 0))), (3, .f (.v (.int .i64 0))), (6, .d (slT (fun x : Int => [DV.v (.int .i64 x)]) 1 l)), (7, .f (.v (.int .i64 l.length))), (8, .f (.v (.int .i64 k)))]) (fun k => []) (0) ⟨Nat.zero_le _, rfl⟩ ⟨⟨rfl, rfl⟩, ⟨rfl, rfl⟩, ⟨rfl, rfl⟩, ⟨rfl, rfl⟩, ⟨rfl, rfl⟩, ⟨rfl, rfl⟩, trivial⟩ trivial (fun k hI => ?_)
  obtain ⟨hk, hr⟩ := hI
  refine .seq ?_
  refine .region ?_
  refine .step rfl (.bin rfl rfl rfl rfl) ?_
  refine .nil ?_
  refine .next ?_
  refine .seq ?_
  refine .cond rfl (fun h1 => ?_) (fun h1 => ?_)
  ·skip
   have hlt : k < l.length := by have := of_decide_eq_true h1; omega
   have hd : l.drop k = l[k] :: l.drop (k + 1) := (List.getElem_cons_drop hlt).symm
   refine .skip ?_
   refine .next ?_
   refine .seq ?_
   refine .block ?_
   refine .seq ?_
   refine .region ?_
   refine .step rfl (.idx (l[k]) rfl rfl rfl rfl et52 (fun _ => rfl) (Int.natCast_nonneg k) (get_nat hlt)) ?_
   refine .step rfl (.lde rfl rfl rfl rfl tk3) ?_
   refine .step rfl (.assign rfl rfl) ?_
   refine .nil ?_
   refine .next ?_
   refine .seq ?_
   refine .region ?_
   refine .step rfl (.move rfl rfl) ?_
   refine .step rfl (.move rfl rfl) ?_
   refine .step rfl (.bin rfl rfl rfl rfl) ?_
   refine .nil ?_
   refine .next ?_
   refine .cond rfl (fun h2 => ?_) (fun h2 => ?_)
   ·skip
    have hz : ¬ l[k] = 0 := by simpa using h2
    have hz' : orF l = l[k] := by rw [← hr, hd, orF, if_neg hz]
    refine .seq ?_
    refine .region ?_
    refine .step rfl (.move rfl rfl) ?_
    refine .step rfl (.assign rfl rfl) ?_
    refine .nil ?_
    refine .next ?_
    refine .ret ?_
    rw [hz']
    exact TE.retf rfl rfl rfl (pl_v _)
   ·skip
    have hz : l[k] = 0 := by simpa using h2
    refine .skip ?_
    refine TE.blk ?_
    refine .next ?_
    refine .region ?_
    refine .step rfl (.binv (.int .i64 ((k + 1 : Nat) : Int)) rfl rfl rfl rfl (congrArg _ (wrap_succ hlt hl))) ?_
    refine .step rfl (.move rfl rfl) ?_
    refine .nil ?_
    exact TE.round id (fun _ _ e => e) (k + 1) ⟨hlt, by rw [← hr, hd, orF, if_pos hz]⟩ (by omega) ⟨⟨rfl, rfl⟩, ⟨rfl, rfl⟩, ⟨rfl, rfl⟩, ⟨rfl, rfl⟩, ⟨rfl, rfl⟩, ⟨rfl, rfl⟩, trivial⟩ trivial
  ·skip
   have hlt : k = l.length := by have h0 := of_decide_eq_false h1; have h1 : k ≤ l.length := hk; omega
   have hz : orF l = 0 := by rw [← hr, hlt, List.drop_length]; rfl
   refine .exit ?_
   refine TE.pass ?_
   refine TE.pass ?_
   refine TE.here ?_
   refine .next ?_
   refine .seq ?_
   refine .region ?_
   refine .step rfl (.move rfl rfl) ?_
   refine .step rfl (.assign rfl rfl) ?_
   refine .nil ?_
   refine .next ?_
   refine .ret ?_
   rw [hz]
   exact TE.retf rfl rfl rfl trivial

set_option maxRecDepth 100000 in
set_option maxHeartbeats 1600000 in
theorem order_any (k : Kn) (e : En) : PF Try.prog 51 [.ag k.dv, .ag e.dv] (.v (.int .i64 (ordF e.nm e.ver k))) := by
  refine PF.enter (fn := Try.f51) Try.func51 rfl Try.ntmps51 rfl (fun w0 => ?_)
  refine .seq ?_
  refine .region ?_
  refine .step rfl (.box 1 rfl rfl rfl rfl) ?_
  refine .step rfl (.box 2 rfl rfl rfl rfl) ?_
  refine .step rfl (.assign rfl rfl) ?_
  refine .nil ?_
  refine .next ?_
  refine .seq ?_
  refine .draw mixed [Ro.mk _ (Eff.mk (some (5, _)) []) [1], Ro.mk _ (Eff.mk (some (6, _)) []) [1], Ro.mk _ (Eff.mk (some (7, _)) []) [1], Ro.mk _ (Eff.mk (some (8, _)) []) [2], Ro.mk _ (Eff.mk (some (9, _)) []) [2], Ro.mk _ (Eff.mk (some (10, _)) []) [], Ro.mk _ (Eff.mk (some (11, _)) []) [1], Ro.mk _ (Eff.mk (some (12, _)) []) [1], Ro.mk _ (Eff.mk (some (13, _)) []) [1], Ro.mk _ (Eff.mk (some (14, _)) []) [2], Ro.mk _ (Eff.mk (some (15, _)) []) [2], Ro.mk _ (Eff.mk (some (16, _)) []) [], Ro.mk _ (Eff.mk (some (17, _)) [(3, _)]) [3], Ro.mk _ (Eff.mk (some (18, _)) []) [3], Ro.mk _ (Eff.mk (some (4, _)) []) []] rfl ⟨(fun _ _ => .fieldp rfl rfl rfl rfl fo32_0), (fun _ _ => .fieldp rfl rfl rfl rfl fo30_0), (fun _ _ => .ldp rfl rfl rfl rfl rfl tk9), (fun _ _ => .fieldp rfl rfl rfl rfl fo30_0), (fun _ _ => .ldp rfl rfl rfl rfl rfl tk9), (fun _ _ => .callf rfl cf65 rfl ⟨trivial, trivial, trivial⟩ (cmp_s _ _)), (fun _ _ => .fieldp rfl rfl rfl rfl fo32_0), (fun _ _ => .fieldp rfl rfl rfl rfl fo30_1), (fun _ _ => .ldp rfl rfl rfl rfl rfl tk3), (fun _ _ => .fieldp rfl rfl rfl rfl fo30_1), (fun _ _ => .ldp rfl rfl rfl rfl rfl tk3), (fun _ _ => .callf rfl cf66 rfl ⟨trivial, trivial, trivial⟩ (cmp_i _ _)), (fun _ _ => .buildsl 3 rfl rfl rfl ap52 zc3 rfl rfl rfl), (fun _ _ => .callf rfl cf64 rfl ⟨okA_len rfl rfl, trivial⟩ (or_any [cmpS k.nm e.nm, cmpI k.ver e.ver] (by simp))), (fun _ _ => .assign rfl rfl), trivial⟩ (by kernel_rfl) ?_
  refine .next ?_
  refine .ret ?_
  exact TE.retf rfl rfl rfl trivial

end Go.Proofs.Ythidepbffhhkmaa
