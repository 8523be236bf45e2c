import Derived.Test.YtmjokdhhniblgaaGreatYIa
import Derived.Test.YtmjokdhhniblgaaGreatYEa
import Derived.Test.YtmjokdhhniblgaaGreatYEv
/-
  The library's comparisons; the order of what is known.
-/
namespace Go.Proofs.YtmjokdhhniblgaaGreat
set_option linter.unusedVariables false
set_option linter.unusedSimpArgs false
open Go.RowKit Pl
set_option maxRecDepth 100000
set_option maxHeartbeats 3200000
theorem et180 : elt Tryz.prog 180 = some (3, 1) := by kernel_rfl
theorem nan_s (a : List UInt8) : PF Tryz.prog 127 [.v (strV a)] (.v (.bool false)) := by
 refine PF.enter (fn := Tryz.f127) Tryz.func127 rfl Tryz.ntmps127 rfl (fun w0 => .w ?_)
 refine .t 3 1 rfl rfl (.bv (.bool false) rfl (by simp)) ?_
 exact .z 1 1 rfl (TE.retf rfl rfl rfl trivial)
theorem cmp_s (a b : List UInt8) : PF Tryz.prog 88 [.v (strV a), .v (strV b)] (.v (.int .i64 (cmpS a b))) := by
 refine PF.enter (fn := Tryz.f88) Tryz.func88 rfl Tryz.ntmps88 rfl (fun w0 => .w ?_)
 refine .t 2 1 rfl rfl (.cf (nan_s _) rfl) ?_
 refine .t 2 1 rfl rfl (.cf (nan_s _) rfl) ?_
 refine .q 8 1 rfl rfl (fun h3 => ?_) (fun h3 => ?_)
 ·skip
  have h3 := h3
  have e : cmpS a b = -1 := by unfold cmpS; rw [if_pos h3]
  rw [e]
  exact .z 1 1 rfl (TE.retf rfl rfl rfl trivial)
 ·skip
  have h3 := h3
  refine .q 3 1 rfl rfl (fun h4 => ?_) (fun h4 => ?_)
  ·skip
   have h4 := h4
   have e : cmpS a b = 1 := by unfold cmpS; simp only [Bool.not_eq_true', Bool.or_eq_false_iff, decide_eq_false_iff_not] at h4; simp [h4.1, h4.2]
   rw [e]
   exact .z 1 1 rfl (TE.retf rfl rfl rfl trivial)
  ·skip
   have h4 := h4
   have e : cmpS a b = 0 := by unfold cmpS; simp only [Bool.not_eq_false', Bool.or_eq_true, decide_eq_true_eq] at h4; rw [h3] at h4; simp at h4; rw [if_neg (by rw [h3]; simp), if_pos h4]
   rw [e]
   exact .z 1 1 rfl (TE.retf rfl rfl rfl trivial)
theorem nan_i (a : Int) : PF Tryz.prog 174 [.v (.int .i64 a)] (.v (.bool false)) := by
 refine PF.enter (fn := Tryz.f174) Tryz.func174 rfl Tryz.ntmps174 rfl (fun w0 => .w ?_)
 refine .t 3 1 rfl rfl (.bv (.bool false) rfl (by simp)) ?_
 exact .z 1 1 rfl (TE.retf rfl rfl rfl trivial)
theorem cmp_i (a b : Int) : PF Tryz.prog 154 [.v (.int .i64 a), .v (.int .i64 b)] (.v (.int .i64 (cmpI a b))) := by
 refine PF.enter (fn := Tryz.f154) Tryz.func154 rfl Tryz.ntmps154 rfl (fun w0 => .w ?_)
 refine .t 2 1 rfl rfl (.cf (nan_i _) rfl) ?_
 refine .t 2 1 rfl rfl (.cf (nan_i _) rfl) ?_
 refine .q 8 1 rfl rfl (fun h3 => ?_) (fun h3 => ?_)
 ·skip
  have h3 := h3
  have e : cmpI a b = -1 := by unfold cmpI; rw [if_pos (of_decide_eq_true h3)]
  rw [e]
  exact .z 1 1 rfl (TE.retf rfl rfl rfl trivial)
 ·skip
  have h3 := h3
  refine .q 3 1 rfl rfl (fun h4 => ?_) (fun h4 => ?_)
  ·skip
   have h4 := h4
   have e : cmpI a b = 1 := by unfold cmpI; have h3' := of_decide_eq_false h3; have h4' := of_decide_eq_true h4; rw [if_neg h3', if_pos h4']
   rw [e]
   exact .z 1 1 rfl (TE.retf rfl rfl rfl trivial)
  ·skip
   have h4 := h4
   have e : cmpI a b = 0 := by unfold cmpI; have h3' := of_decide_eq_false h3; have h4' := of_decide_eq_false h4; rw [if_neg h3', if_neg h4']
   rw [e]
   exact .z 1 1 rfl (TE.retf rfl rfl rfl trivial)
theorem or_any (l : List Int) (hl : l.length ≤ 140737488355328) : PF Tryz.prog 153 [slT (fun x : Int => [DV.v (.int .i64 x)]) 1 l] (.v (.int .i64 (orF l))) := by
 refine PF.enter (fn := Tryz.f153) Tryz.func153 rfl Tryz.ntmps153 rfl (fun w0 => .w ?_)
 refine .lo (T := Nat) 5 1 rfl (fun k => k ≤ l.length ∧ orF (l.drop k) = orF l) (fun k => l.length - k) [0] [] (fun k => [(2, .f (.v (.int .i64 0))), (3, .f (.v (.int .i64 0))), (6, .d (slT (fun x : Int => [DV.v (.int .i64 x)]) 1 l)), (7, .f (.v (.int .i64 l.length))), (8, .f (.v (.int .i64 k)))]) (fun k => []) (0) rfl rfl ⟨Nat.zero_le _, rfl⟩ rfl rfl rfl (fun k hI => ?_)
 obtain ⟨hk, hr⟩ := hI
 refine .q 1 1 rfl rfl (fun h1 => ?_) (fun h1 => ?_)
 ·skip
  have hlt : k < l.length := by have := of_decide_eq_true h1; omega
  have hd : l.drop k = l[k] :: l.drop (k + 1) := (List.getElem_cons_drop hlt).symm
  refine .t 0 1 rfl rfl (.idx (l[k]) rfl rfl rfl rfl et180 (fun _ => rfl) (Int.natCast_nonneg k) (get_nat hlt)) ?_
  refine .q 5 1 rfl rfl (fun h2 => ?_) (fun h2 => ?_)
  ·skip
   have hz : ¬ l[k] = 0 := by simpa using h2
   have hz' : orF l = l[k] := by rw [← hr, hd, orF, if_neg hz]
   rw [hz']
   exact .z 2 1 rfl (TE.retf rfl rfl rfl (pl_v _))
  ·skip
   have hz : l[k] = 0 := by simpa using h2
   refine .t 0 1 rfl rfl (.bv (.int .i64 ((k + 1 : Nat) : Int)) rfl (congrArg _ (wrap_succ hlt hl))) ?_
   exact .rd 1 1 id (fun _ _ e => e) rfl (k + 1) ⟨hlt, by rw [← hr, hd, orF, if_pos hz]⟩ (by omega) rfl rfl rfl
 ·skip
  have hlt : k = l.length := by have h0 := of_decide_eq_false h1; have h1 : k ≤ l.length := hk; omega
  have hz : orF l = 0 := by rw [← hr, hlt, List.drop_length]; rfl
  rw [hz]
  exact .z 2 1 rfl (TE.retf rfl rfl rfl trivial)
theorem order_any (k : Kn) (e : En) : PF Tryz.prog 114 [.ag k.dv, .ag e.dv] (.v (.int .i64 (ordF e.nm e.ver k))) := by
 refine PF.enter (fn := Tryz.f114) Tryz.func114 rfl Tryz.ntmps114 rfl (fun w0 => .w ?_)
 refine .d 3 1 rfl ?_
 refine .v 5 3 [] rfl rfl (fun _ _ => .cf (cmp_s _ _) rfl) ?_
 refine .v 5 3 [] rfl rfl (fun _ _ => .cf (cmp_i _ _) rfl) ?_
 refine .t 0 3 (E := ⟨some (17, _), [(3, _)]⟩) [3] rfl rfl (fun _ _ => .ba 3 rfl) ?_
 refine .v 0 4 [3] rfl rfl (fun _ _ => .cf (or_any [cmpS k.nm e.nm, cmpI k.ver e.ver] (by simp)) rfl) ?_
 refine .y 1 4 rfl (by kernel_rfl) ?_
 exact .z 0 4 rfl (TE.retf rfl rfl rfl trivial)
end Go.Proofs.YtmjokdhhniblgaaGreat

