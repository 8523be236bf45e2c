import Derived.Test.YtmjokdhhniblgaaGreatYIc
import Derived.Test.YtmjokdhhniblgaaGreatYEv
/-
  The next version, the references' find.
-/
namespace Go.Proofs.YtmjokdhhniblgaaGreat
set_option linter.unusedVariables false
set_option linter.unusedSimpArgs false
open Go.RowKit Pl
set_option maxRecDepth 100000
set_option maxHeartbeats 3200000
theorem rlatest_any (l : List Kn) (nm : List UInt8) (hl : l.length ≤ 140737488355328) : PF Tryz.prog 9 [slT Kn.dv 4 l, .v (strV nm)] (.tp [.ag (latR l nm).1.dv, .v (.bool (latR l nm).2)]) := by
 refine PF.enter (fn := Tryz.f9) Tryz.func9 rfl Tryz.ntmps9 rfl (fun w0 => .w ?_)
 refine .lo (T := Nat × Kn × Bool) 5 1 rfl (fun x => x.1 ≤ l.length ∧ latR (l.take x.1) nm = x.2) (fun x => l.length - x.1) [0, 1] [] (fun x => [(4, .ptr 1 0), (6, .ptr 2 0), (7, .f (.v (.bool x.2.2))), (8, .f (.v (.int .i64 x.1)))]) (fun x => [(1, .box 40 zeroK.dv), (2, .box 40 x.2.1.dv)]) ((0, zeroK, false)) rfl rfl ⟨Nat.zero_le _, rfl⟩ rfl rfl rfl (fun x hI => ?_)
 obtain ⟨k, q, ok⟩ := x
 obtain ⟨hk, hr⟩ := hI
 refine .q 4 3 rfl rfl (fun h1 => ?_) (fun h1 => ?_)
 ·skip
  have hlt : k < l.length := by have q : (k : Int) < (l.length : Int) := of_decide_eq_true h1; omega
  by_cases hn : (l[k]).nm = nm
  ·skip
   cases ok with
   | true =>
    by_cases hv : q.ver < (l[k]).ver
    ·skip
     refine .d 0 3 rfl ?_
     refine .v 2 3 [] rfl rfl (fun _ _ => .idx (l[k]) rfl rfl rfl rfl et33 (fun _ => rfl) (Int.natCast_nonneg k) (get_nat hlt)) ?_
     refine .v 4 3 [] rfl rfl (fun _ _ => .bv (.bool true) rfl (congrArg Value.bool (decide_eq_true hn))) ?_
     refine .v 6 3 [] rfl rfl (fun _ _ => .idx (l[k]) rfl rfl rfl rfl et33 (fun _ => rfl) (Int.natCast_nonneg k) (get_nat hlt)) ?_
     refine .v 6 3 [] rfl rfl (fun _ _ => .bv (.bool true) rfl (congrArg Value.bool (decide_eq_true hv))) ?_
     refine .y 2 3 rfl (by kernel_rfl) ?_
     refine .t 3 3 rfl rfl (.idx (l[k]) rfl rfl rfl rfl et33 (fun _ => rfl) (Int.natCast_nonneg k) (get_nat hlt)) ?_
     refine .t 4 3 rfl rfl (.bv (.int .i64 ((k + 1 : Nat) : Int)) rfl (congrArg _ (wrap_succ hlt hl))) ?_
     exact .rd 1 3 id (fun _ _ e => e) rfl ((k + 1, l[k], true)) ⟨hlt, by rw [latR_snoc hlt, hr]; simp [latStep, hn, hv]⟩ (by show _ - (k + 1) < _ - k; omega) rfl rfl rfl
    ·skip
     refine .d 0 3 rfl ?_
     refine .v 2 3 [] rfl rfl (fun _ _ => .idx (l[k]) rfl rfl rfl rfl et33 (fun _ => rfl) (Int.natCast_nonneg k) (get_nat hlt)) ?_
     refine .v 4 3 [] rfl rfl (fun _ _ => .bv (.bool true) rfl (congrArg Value.bool (decide_eq_true hn))) ?_
     refine .v 6 3 [] rfl rfl (fun _ _ => .idx (l[k]) rfl rfl rfl rfl et33 (fun _ => rfl) (Int.natCast_nonneg k) (get_nat hlt)) ?_
     refine .v 6 3 [] rfl rfl (fun _ _ => .bv (.bool false) rfl (congrArg Value.bool (decide_eq_false hv))) ?_
     refine .y 2 3 rfl (by kernel_rfl) ?_
     refine .t 2 3 rfl rfl (.bv (.int .i64 ((k + 1 : Nat) : Int)) rfl (congrArg _ (wrap_succ hlt hl))) ?_
     exact .rd 1 3 id (fun _ _ e => e) rfl ((k + 1, q, true)) ⟨hlt, by rw [latR_snoc hlt, hr]; simp [latStep, hn, hv]⟩ (by show _ - (k + 1) < _ - k; omega) rfl rfl rfl
   | false =>
    refine .d 0 3 rfl ?_
    refine .v 2 3 [] rfl rfl (fun _ _ => .idx (l[k]) rfl rfl rfl rfl et33 (fun _ => rfl) (Int.natCast_nonneg k) (get_nat hlt)) ?_
    refine .v 4 3 [] rfl rfl (fun _ _ => .bv (.bool true) rfl (congrArg Value.bool (decide_eq_true hn))) ?_
    refine .y 16 3 rfl (by kernel_rfl) ?_
    refine .t 3 3 rfl rfl (.idx (l[k]) rfl rfl rfl rfl et33 (fun _ => rfl) (Int.natCast_nonneg k) (get_nat hlt)) ?_
    refine .t 4 3 rfl rfl (.bv (.int .i64 ((k + 1 : Nat) : Int)) rfl (congrArg _ (wrap_succ hlt hl))) ?_
    exact .rd 1 3 id (fun _ _ e => e) rfl ((k + 1, l[k], true)) ⟨hlt, by rw [latR_snoc hlt, hr]; simp [latStep, hn]⟩ (by show _ - (k + 1) < _ - k; omega) rfl rfl rfl
  ·skip
   refine .d 0 3 rfl ?_
   refine .v 2 3 [] rfl rfl (fun _ _ => .idx (l[k]) rfl rfl rfl rfl et33 (fun _ => rfl) (Int.natCast_nonneg k) (get_nat hlt)) ?_
   refine .v 4 3 [] rfl rfl (fun _ _ => .bv (.bool false) rfl (congrArg Value.bool (decide_eq_false hn))) ?_
   refine .y 16 3 rfl (by kernel_rfl) ?_
   refine .t 2 3 rfl rfl (.bv (.int .i64 ((k + 1 : Nat) : Int)) rfl (congrArg _ (wrap_succ hlt hl))) ?_
   exact .rd 1 3 id (fun _ _ e => e) rfl ((k + 1, q, ok)) ⟨hlt, by rw [latR_snoc hlt, hr]; simp [latStep, hn]⟩ (by show _ - (k + 1) < _ - k; omega) rfl rfl rfl
 ·skip
  have hlt : k = l.length := by have h0 : ¬ ((k : Int) < (l.length : Int)) := of_decide_eq_false h1; have h1 : k ≤ l.length := hk; omega
  subst hlt
  have hr' : latR l nm = (q, ok) := by have h1 : latR (l.take l.length) nm = (q, ok) := hr; rwa [List.take_length] at h1
  rw [hr']
  exact .z 4 3 rfl (TE.rettf rfl rfl rfl ⟨pl_ag (pl_kn (_)), trivial, trivial⟩)
end Go.Proofs.YtmjokdhhniblgaaGreat

