import Derived.Test.YtdjcclcejmeheaaGreatZIa
import Derived.Test.YtdjcclcejmeheaaGreatZEa
import Derived.Test.YtdjcclcejmeheaaGreatZEv
/-
  The library's comparisons; the order of what is known.
-/
namespace Go.Proofs.YtdjcclcejmeheaaGreat
set_option linter.unusedVariables false
set_option linter.unusedSimpArgs false
open Go.RowKit Pl
set_option maxRecDepth 100000
set_option maxHeartbeats 3200000
end Go.Proofs.YtdjcclcejmeheaaGreat
/-
  The program's directory: search, the latest, find.
-/
namespace Go.Proofs.YtdjcclcejmeheaaGreat
set_option linter.unusedVariables false
set_option linter.unusedSimpArgs false
open Go.RowKit Pl
set_option maxRecDepth 100000
set_option maxHeartbeats 3200000
end Go.Proofs.YtdjcclcejmeheaaGreat
/-
  The next version, the references' find.
-/
namespace Go.Proofs.YtdjcclcejmeheaaGreat
set_option linter.unusedVariables false
set_option linter.unusedSimpArgs false
open Go.RowKit Pl
set_option maxRecDepth 100000
set_option maxHeartbeats 3200000
theorem et27 : elt Tryz.prog 27 = some (37, 4) := by kernel_rfl
theorem rlatest_any (l : List Kn) (nm : List UInt8) (hl : l.length ≤ 140737488355328) : PF Tryz.prog 24 [slT Kn.dv 4 l, .v (strV nm)] (.tp [.ag (latR l nm).1.dv, .v (.bool (latR l nm).2)]) := by
 refine PF.enter (fn := Tryz.f24) Tryz.func24 rfl Tryz.ntmps24 rfl (fun w0 => .w ?_)
 refine .lo (T := Nat × Kn × Bool) 5 1 rfl (fun x => x.1 ≤ l.length ∧ latR (l.take x.1) nm = x.2) (fun x => l.length - x.1) [0, 1] [] (fun x => [(4, .ptr 1 0), (6, .ptr 2 0), (7, .f (.v (.bool x.2.2))), (8, .f (.v (.int .i64 x.1)))]) (fun x => [(1, .box 37 zeroK.dv), (2, .box 37 x.2.1.dv)]) ((0, zeroK, false)) rfl rfl ⟨Nat.zero_le _, rfl⟩ rfl rfl rfl (fun x hI => ?_)
 obtain ⟨k, q, ok⟩ := x
 obtain ⟨hk, hr⟩ := hI
 refine .q 4 3 rfl rfl (fun h1 => ?_) (fun h1 => ?_)
 ·skip
  have hlt : k < l.length := by have q : (k : Int) < (l.length : Int) := of_decide_eq_true h1; omega
  by_cases hn : (l[k]).nm = nm
  ·skip
   cases ok with
   | true =>
    by_cases hv : q.ver < (l[k]).ver
    ·skip
     refine .d 0 3 rfl ?_
     refine .v 2 3 [] rfl rfl (fun _ _ => .idx (l[k]) rfl rfl rfl rfl et27 (fun _ => rfl) (Int.natCast_nonneg k) (get_nat hlt)) ?_
     refine .v 4 3 [] rfl rfl (fun _ _ => .bv (.bool true) rfl (congrArg Value.bool (decide_eq_true hn))) ?_
     refine .v 6 3 [] rfl rfl (fun _ _ => .idx (l[k]) rfl rfl rfl rfl et27 (fun _ => rfl) (Int.natCast_nonneg k) (get_nat hlt)) ?_
     refine .v 6 3 [] rfl rfl (fun _ _ => .bv (.bool true) rfl (congrArg Value.bool (decide_eq_true hv))) ?_
     refine .y 2 3 rfl (by kernel_rfl) ?_
     refine .t 3 3 rfl rfl (.idx (l[k]) rfl rfl rfl rfl et27 (fun _ => rfl) (Int.natCast_nonneg k) (get_nat hlt)) ?_
     refine .t 4 3 rfl rfl (.bv (.int .i64 ((k + 1 : Nat) : Int)) rfl (congrArg _ (wrap_succ hlt hl))) ?_
     exact .rd 1 3 id (fun _ _ e => e) rfl ((k + 1, l[k], true)) ⟨hlt, by rw [latR_snoc hlt, hr]; simp [latStep, hn, hv]⟩ (by show _ - (k + 1) < _ - k; omega) rfl rfl rfl
    ·skip
     refine .d 0 3 rfl ?_
     refine .v 2 3 [] rfl rfl (fun _ _ => .idx (l[k]) rfl rfl rfl rfl et27 (fun _ => rfl) (Int.natCast_nonneg k) (get_nat hlt)) ?_
     refine .v 4 3 [] rfl rfl (fun _ _ => .bv (.bool true) rfl (congrArg Value.bool (decide_eq_true hn))) ?_
     refine .v 6 3 [] rfl rfl (fun _ _ => .idx (l[k]) rfl rfl rfl rfl et27 (fun _ => rfl) (Int.natCast_nonneg k) (get_nat hlt)) ?_
     refine .v 6 3 [] rfl rfl (fun _ _ => .bv (.bool false) rfl (congrArg Value.bool (decide_eq_false hv))) ?_
     refine .y 2 3 rfl (by kernel_rfl) ?_
     refine .t 2 3 rfl rfl (.bv (.int .i64 ((k + 1 : Nat) : Int)) rfl (congrArg _ (wrap_succ hlt hl))) ?_
     exact .rd 1 3 id (fun _ _ e => e) rfl ((k + 1, q, true)) ⟨hlt, by rw [latR_snoc hlt, hr]; simp [latStep, hn, hv]⟩ (by show _ - (k + 1) < _ - k; omega) rfl rfl rfl
   | false =>
    refine .d 0 3 rfl ?_
    refine .v 2 3 [] rfl rfl (fun _ _ => .idx (l[k]) rfl rfl rfl rfl et27 (fun _ => rfl) (Int.natCast_nonneg k) (get_nat hlt)) ?_
    refine .v 4 3 [] rfl rfl (fun _ _ => .bv (.bool true) rfl (congrArg Value.bool (decide_eq_true hn))) ?_
    refine .y 16 3 rfl (by kernel_rfl) ?_
    refine .t 3 3 rfl rfl (.idx (l[k]) rfl rfl rfl rfl et27 (fun _ => rfl) (Int.natCast_nonneg k) (get_nat hlt)) ?_
    refine .t 4 3 rfl rfl (.bv (.int .i64 ((k + 1 : Nat) : Int)) rfl (congrArg _ (wrap_succ hlt hl))) ?_
    exact .rd 1 3 id (fun _ _ e => e) rfl ((k + 1, l[k], true)) ⟨hlt, by rw [latR_snoc hlt, hr]; simp [latStep, hn]⟩ (by show _ - (k + 1) < _ - k; omega) rfl rfl rfl
  ·skip
   refine .d 0 3 rfl ?_
   refine .v 2 3 [] rfl rfl (fun _ _ => .idx (l[k]) rfl rfl rfl rfl et27 (fun _ => rfl) (Int.natCast_nonneg k) (get_nat hlt)) ?_
   refine .v 4 3 [] rfl rfl (fun _ _ => .bv (.bool false) rfl (congrArg Value.bool (decide_eq_false hn))) ?_
   refine .y 16 3 rfl (by kernel_rfl) ?_
   refine .t 2 3 rfl rfl (.bv (.int .i64 ((k + 1 : Nat) : Int)) rfl (congrArg _ (wrap_succ hlt hl))) ?_
   exact .rd 1 3 id (fun _ _ e => e) rfl ((k + 1, q, ok)) ⟨hlt, by rw [latR_snoc hlt, hr]; simp [latStep, hn]⟩ (by show _ - (k + 1) < _ - k; omega) rfl rfl rfl
 ·skip
  have hlt : k = l.length := by have h0 : ¬ ((k : Int) < (l.length : Int)) := of_decide_eq_false h1; have h1 : k ≤ l.length := hk; omega
  subst hlt
  have hr' : latR l nm = (q, ok) := by have h1 : latR (l.take l.length) nm = (q, ok) := hr; rwa [List.take_length] at h1
  rw [hr']
  exact .z 4 3 rfl (TE.rettf rfl rfl rfl ⟨pl_ag (pl_kn (_)), trivial, trivial⟩)
end Go.Proofs.YtdjcclcejmeheaaGreat
/-
  What an entry may be; the library's helpers.
-/
namespace Go.Proofs.YtdjcclcejmeheaaGreat
set_option linter.unusedVariables false
set_option linter.unusedSimpArgs false
open Go.RowKit Pl
set_option maxRecDepth 100000
set_option maxHeartbeats 3200000
theorem umay_pf (e : En) : PF Tryz.prog 154 [.ag e.dv] (.v (.bool (rightE e.nm e.ver e.key))) := by
 refine PF.enter (fn := Tryz.f154) Tryz.func154 rfl Tryz.ntmps154 rfl (fun w0 => .w ?_)
 by_cases m0 : 1 ≤ e.nm.length
 ·skip
  by_cases m1 : e.nm.length ≤ 32
  ·skip
   by_cases m2 : 1 ≤ e.ver
   ·skip
    by_cases m3 : e.ver ≤ 1073741824
    ·skip
     by_cases m4 : 1 ≤ e.key
     ·skip
      by_cases m5 : e.key < 2305843009213693951
      ·skip
       have hR : rightE e.nm e.ver e.key = true := by unfold rightE; rw [decide_eq_true m0, decide_eq_true m1, decide_eq_true m2, decide_eq_true m3, decide_eq_true m4, decide_eq_true m5]; rfl
       refine .t 5 1 rfl rfl (.bv (.bool true) rfl (congrArg Value.bool (decide_eq_true (by omega)))) ?_
       refine .t 4 2 rfl rfl (.bv (.bool true) rfl (congrArg Value.bool (decide_eq_true (by omega)))) ?_
       refine .t 4 2 rfl rfl (.bv (.bool true) rfl (congrArg Value.bool (decide_eq_true (by omega)))) ?_
       refine .t 4 2 rfl rfl (.bv (.bool true) rfl (congrArg Value.bool (decide_eq_true (by omega)))) ?_
       refine .t 4 2 rfl rfl (.bv (.bool true) rfl (congrArg Value.bool (decide_eq_true (by omega)))) ?_
       refine .t 4 2 rfl rfl (.bv (.bool true) rfl (congrArg Value.bool (decide_eq_true (by omega)))) ?_
       rw [hR]
       exact .z 2 2 rfl (TE.retf rfl rfl rfl trivial)
      ·skip
       have hR : rightE e.nm e.ver e.key = false := by unfold rightE; rw [decide_eq_false m5]; simp
       refine .t 5 1 rfl rfl (.bv (.bool true) rfl (congrArg Value.bool (decide_eq_true (by omega)))) ?_
       refine .t 4 2 rfl rfl (.bv (.bool true) rfl (congrArg Value.bool (decide_eq_true (by omega)))) ?_
       refine .t 4 2 rfl rfl (.bv (.bool true) rfl (congrArg Value.bool (decide_eq_true (by omega)))) ?_
       refine .t 4 2 rfl rfl (.bv (.bool true) rfl (congrArg Value.bool (decide_eq_true (by omega)))) ?_
       refine .t 4 2 rfl rfl (.bv (.bool true) rfl (congrArg Value.bool (decide_eq_true (by omega)))) ?_
       refine .t 4 2 rfl rfl (.bv (.bool false) rfl (congrArg Value.bool (decide_eq_false (by omega)))) ?_
       rw [hR]
       exact .z 2 2 rfl (TE.retf rfl rfl rfl trivial)
     ·skip
      have hR : rightE e.nm e.ver e.key = false := by unfold rightE; rw [decide_eq_false m4]; simp
      refine .t 5 1 rfl rfl (.bv (.bool true) rfl (congrArg Value.bool (decide_eq_true (by omega)))) ?_
      refine .t 4 2 rfl rfl (.bv (.bool true) rfl (congrArg Value.bool (decide_eq_true (by omega)))) ?_
      refine .t 4 2 rfl rfl (.bv (.bool true) rfl (congrArg Value.bool (decide_eq_true (by omega)))) ?_
      refine .t 4 2 rfl rfl (.bv (.bool true) rfl (congrArg Value.bool (decide_eq_true (by omega)))) ?_
      refine .t 4 2 rfl rfl (.bv (.bool false) rfl (congrArg Value.bool (decide_eq_false (by omega)))) ?_
      rw [hR]
      exact .z 7 2 rfl (TE.retf rfl rfl rfl trivial)
    ·skip
     have hR : rightE e.nm e.ver e.key = false := by unfold rightE; rw [decide_eq_false m3]; simp
     refine .t 5 1 rfl rfl (.bv (.bool true) rfl (congrArg Value.bool (decide_eq_true (by omega)))) ?_
     refine .t 4 2 rfl rfl (.bv (.bool true) rfl (congrArg Value.bool (decide_eq_true (by omega)))) ?_
     refine .t 4 2 rfl rfl (.bv (.bool true) rfl (congrArg Value.bool (decide_eq_true (by omega)))) ?_
     refine .t 4 2 rfl rfl (.bv (.bool false) rfl (congrArg Value.bool (decide_eq_false (by omega)))) ?_
     rw [hR]
     exact .z 12 2 rfl (TE.retf rfl rfl rfl trivial)
   ·skip
    have hR : rightE e.nm e.ver e.key = false := by unfold rightE; rw [decide_eq_false m2]; simp
    refine .t 5 1 rfl rfl (.bv (.bool true) rfl (congrArg Value.bool (decide_eq_true (by omega)))) ?_
    refine .t 4 2 rfl rfl (.bv (.bool true) rfl (congrArg Value.bool (decide_eq_true (by omega)))) ?_
    refine .t 4 2 rfl rfl (.bv (.bool false) rfl (congrArg Value.bool (decide_eq_false (by omega)))) ?_
    rw [hR]
    exact .z 17 2 rfl (TE.retf rfl rfl rfl trivial)
  ·skip
   have hR : rightE e.nm e.ver e.key = false := by unfold rightE; rw [decide_eq_false m1]; simp
   refine .t 5 1 rfl rfl (.bv (.bool true) rfl (congrArg Value.bool (decide_eq_true (by omega)))) ?_
   refine .t 4 2 rfl rfl (.bv (.bool false) rfl (congrArg Value.bool (decide_eq_false (by omega)))) ?_
   rw [hR]
   exact .z 22 2 rfl (TE.retf rfl rfl rfl trivial)
 ·skip
  have hR : rightE e.nm e.ver e.key = false := by unfold rightE; rw [decide_eq_false m0]; simp
  refine .t 5 1 rfl rfl (.bv (.bool false) rfl (congrArg Value.bool (decide_eq_false (by omega)))) ?_
  rw [hR]
  exact .z 27 2 rfl (TE.retf rfl rfl rfl trivial)
theorem emay_pf (e : En) : PF Tryz.prog 94 [.ag e.dv] (.v (.bool (rightE e.nm e.ver e.key))) := by
 refine PF.enter (fn := Tryz.f94) Tryz.func94 rfl Tryz.ntmps94 rfl (fun w0 => .w ?_)
 by_cases m0 : 1 ≤ e.nm.length
 ·skip
  by_cases m1 : e.nm.length ≤ 32
  ·skip
   by_cases m2 : 1 ≤ e.ver
   ·skip
    by_cases m3 : e.ver ≤ 1073741824
    ·skip
     by_cases m4 : 1 ≤ e.key
     ·skip
      by_cases m5 : e.key < 2305843009213693951
      ·skip
       have hR : rightE e.nm e.ver e.key = true := by unfold rightE; rw [decide_eq_true m0, decide_eq_true m1, decide_eq_true m2, decide_eq_true m3, decide_eq_true m4, decide_eq_true m5]; rfl
       refine .t 5 1 rfl rfl (.bv (.bool true) rfl (congrArg Value.bool (decide_eq_true (by omega)))) ?_
       refine .t 4 2 rfl rfl (.bv (.bool true) rfl (congrArg Value.bool (decide_eq_true (by omega)))) ?_
       refine .t 4 2 rfl rfl (.bv (.bool true) rfl (congrArg Value.bool (decide_eq_true (by omega)))) ?_
       refine .t 4 2 rfl rfl (.bv (.bool true) rfl (congrArg Value.bool (decide_eq_true (by omega)))) ?_
       refine .t 4 2 rfl rfl (.bv (.bool true) rfl (congrArg Value.bool (decide_eq_true (by omega)))) ?_
       refine .t 4 2 rfl rfl (.bv (.bool true) rfl (congrArg Value.bool (decide_eq_true (by omega)))) ?_
       rw [hR]
       exact .z 2 2 rfl (TE.retf rfl rfl rfl trivial)
      ·skip
       have hR : rightE e.nm e.ver e.key = false := by unfold rightE; rw [decide_eq_false m5]; simp
       refine .t 5 1 rfl rfl (.bv (.bool true) rfl (congrArg Value.bool (decide_eq_true (by omega)))) ?_
       refine .t 4 2 rfl rfl (.bv (.bool true) rfl (congrArg Value.bool (decide_eq_true (by omega)))) ?_
       refine .t 4 2 rfl rfl (.bv (.bool true) rfl (congrArg Value.bool (decide_eq_true (by omega)))) ?_
       refine .t 4 2 rfl rfl (.bv (.bool true) rfl (congrArg Value.bool (decide_eq_true (by omega)))) ?_
       refine .t 4 2 rfl rfl (.bv (.bool true) rfl (congrArg Value.bool (decide_eq_true (by omega)))) ?_
       refine .t 4 2 rfl rfl (.bv (.bool false) rfl (congrArg Value.bool (decide_eq_false (by omega)))) ?_
       rw [hR]
       exact .z 2 2 rfl (TE.retf rfl rfl rfl trivial)
     ·skip
      have hR : rightE e.nm e.ver e.key = false := by unfold rightE; rw [decide_eq_false m4]; simp
      refine .t 5 1 rfl rfl (.bv (.bool true) rfl (congrArg Value.bool (decide_eq_true (by omega)))) ?_
      refine .t 4 2 rfl rfl (.bv (.bool true) rfl (congrArg Value.bool (decide_eq_true (by omega)))) ?_
      refine .t 4 2 rfl rfl (.bv (.bool true) rfl (congrArg Value.bool (decide_eq_true (by omega)))) ?_
      refine .t 4 2 rfl rfl (.bv (.bool true) rfl (congrArg Value.bool (decide_eq_true (by omega)))) ?_
      refine .t 4 2 rfl rfl (.bv (.bool false) rfl (congrArg Value.bool (decide_eq_false (by omega)))) ?_
      rw [hR]
      exact .z 7 2 rfl (TE.retf rfl rfl rfl trivial)
    ·skip
     have hR : rightE e.nm e.ver e.key = false := by unfold rightE; rw [decide_eq_false m3]; simp
     refine .t 5 1 rfl rfl (.bv (.bool true) rfl (congrArg Value.bool (decide_eq_true (by omega)))) ?_
     refine .t 4 2 rfl rfl (.bv (.bool true) rfl (congrArg Value.bool (decide_eq_true (by omega)))) ?_
     refine .t 4 2 rfl rfl (.bv (.bool true) rfl (congrArg Value.bool (decide_eq_true (by omega)))) ?_
     refine .t 4 2 rfl rfl (.bv (.bool false) rfl (congrArg Value.bool (decide_eq_false (by omega)))) ?_
     rw [hR]
     exact .z 12 2 rfl (TE.retf rfl rfl rfl trivial)
   ·skip
    have hR : rightE e.nm e.ver e.key = false := by unfold rightE; rw [decide_eq_false m2]; simp
    refine .t 5 1 rfl rfl (.bv (.bool true) rfl (congrArg Value.bool (decide_eq_true (by omega)))) ?_
    refine .t 4 2 rfl rfl (.bv (.bool true) rfl (congrArg Value.bool (decide_eq_true (by omega)))) ?_
    refine .t 4 2 rfl rfl (.bv (.bool false) rfl (congrArg Value.bool (decide_eq_false (by omega)))) ?_
    rw [hR]
    exact .z 17 2 rfl (TE.retf rfl rfl rfl trivial)
  ·skip
   have hR : rightE e.nm e.ver e.key = false := by unfold rightE; rw [decide_eq_false m1]; simp
   refine .t 5 1 rfl rfl (.bv (.bool true) rfl (congrArg Value.bool (decide_eq_true (by omega)))) ?_
   refine .t 4 2 rfl rfl (.bv (.bool false) rfl (congrArg Value.bool (decide_eq_false (by omega)))) ?_
   rw [hR]
   exact .z 22 2 rfl (TE.retf rfl rfl rfl trivial)
 ·skip
  have hR : rightE e.nm e.ver e.key = false := by unfold rightE; rw [decide_eq_false m0]; simp
  refine .t 5 1 rfl rfl (.bv (.bool false) rfl (congrArg Value.bool (decide_eq_false (by omega)))) ?_
  rw [hR]
  exact .z 27 2 rfl (TE.retf rfl rfl rfl trivial)
theorem uent_pf (nm : List UInt8) (v k c : Int) : PF Tryz.prog 155 [.ag [.v (strV nm), .v (.int .i64 v), .v (.int .u64 k), .v (.int .i64 c), .v (.int .u64 0), .v (.int .u64 0)]] (.ag (En.dv ⟨nm, v, k⟩)) := by
 refine PF.enter (fn := Tryz.f155) Tryz.func155 rfl Tryz.ntmps155 rfl (fun w0 => .w ?_)
 refine .t 8 1 rfl rfl (.bd (En.dv ⟨nm, v, k⟩) rfl) ?_
 exact .z 1 3 rfl (TE.retf rfl rfl rfl (pl_ag (pl_en ⟨nm, v, k⟩)))
theorem urt_pf (nm : List UInt8) (v k : Int) : PF Tryz.prog 141 [.ag [.v (strV nm), .v (.int .i64 v), .v (.int .u64 k), .v (.int .i64 0), .v (.int .u64 0), .v (.int .u64 0)]] (.v (.bool (rightE nm v k))) := by
 refine PF.enter (fn := Tryz.f141) Tryz.func141 rfl Tryz.ntmps141 rfl (fun w0 => .w ?_)
 refine .t 3 1 rfl rfl (.cf (uent_pf nm v k 0) rfl) ?_
 refine .t 0 2 rfl rfl (.cf (umay_pf ⟨nm, v, k⟩) rfl) ?_
 refine .case 5 rfl (fun h1 => ?_) (fun h1 => ?_)
 ·skip
  have hR : rightE nm v k = true := h1
  refine .t 3 2 rfl rfl (.bv (.bool true) rfl (rfl)) ?_
  rw [hR]
  exact .z 7 2 rfl (TE.retf rfl rfl rfl trivial)
 ·skip
  have hR : rightE nm v k = false := h1
  rw [hR]
  exact .z 11 2 rfl (TE.retf rfl rfl rfl trivial)
end Go.Proofs.YtdjcclcejmeheaaGreat

