import Derived.Test.YtmjokdhhniblgaaGreatYIb
import Derived.Test.YtmjokdhhniblgaaGreatYEv
/-
  The program's directory: search, the latest, find.
-/
namespace Go.Proofs.YtmjokdhhniblgaaGreat
set_option linter.unusedVariables false
set_option linter.unusedSimpArgs false
open Go.RowKit Pl
set_option maxRecDepth 100000
set_option maxHeartbeats 3200000
theorem cf114 : cfn Tryz.prog 114 = true := by kernel_rfl
theorem bs_any (l : List Kn) (e : En) (hl : l.length ≤ 140737488355328) : PF Tryz.prog 113 [slT Kn.dv 4 l, .ag e.dv, .fn (.func 114) [] []] (.tp [.v (.int .i64 (bsI l e.nm e.ver)), .v (.bool (placeB l e.nm e.ver))]) := by
 refine PF.enter (fn := Tryz.f113) Tryz.func113 rfl Tryz.ntmps113 rfl (fun w0 => .w ?_)
 refine .lo (T := Nat × Nat × Nat) 9 1 rfl (fun x => x.1 ≤ x.2.1 ∧ x.2.1 ≤ l.length ∧ x.2.1 - x.1 ≤ x.2.2 ∧ bsGo l e.nm e.ver x.2.2 x.1 x.2.1 = bsI l e.nm e.ver) (fun x => x.2.1 - x.1) [0, 1, 2] [] (fun x => [(4, .ptr 1 0), (8, .f (.v (.int .i64 l.length))), (9, .f (.v (.int .i64 x.1))), (10, .f (.v (.int .i64 x.2.1)))]) (fun x => [(1, .box 38 e.dv)]) ((0, l.length, l.length)) rfl rfl ⟨Nat.zero_le _, Nat.le_refl _, Nat.le_refl _, rfl⟩ rfl rfl rfl (fun x hI => ?_)
 obtain ⟨i, j, f⟩ := x
 obtain ⟨i1, i2, i3, i4⟩ := hI
 have i1 : i ≤ j := i1
 have i2 : j ≤ l.length := i2
 have i3 : j - i ≤ f := i3
 have i4 : bsGo l e.nm e.ver f i j = bsI l e.nm e.ver := i4
 refine .q 3 2 rfl rfl (fun h1 => ?_) (fun h1 => ?_)
 ·skip
  have hij : i < j := by have q : (i : Int) < (j : Int) := of_decide_eq_true h1; omega
  have hm : (i + j) / 2 < l.length := by omega
  refine .t 2 2 rfl rfl (.bv (.int .i64 ((i + j : Nat) : Int)) rfl (congrArg _ (wrap_add i j (by omega)))) ?_
  refine .t 0 2 rfl rfl (.cv (((i + j : Nat) : Int)) rfl (wrap_natu _ (by omega))) ?_
  refine .t 0 2 rfl rfl (.shr ((((i + j) / 2 : Nat) : Int)) rfl rfl rfl (by decide) (half_eq _)) ?_
  refine .t 0 2 rfl rfl (.cv ((((i + j) / 2 : Nat) : Int)) rfl (wrap_nat _ (by omega))) ?_
  refine .d 1 2 rfl ?_
  refine .v 3 2 [] rfl rfl (fun _ _ => .idx (l[(i + j) / 2]) rfl rfl rfl rfl et33 (fun _ => rfl) (Int.natCast_nonneg _) (get_nat hm)) ?_
  refine .v 0 2 [] rfl rfl (fun _ _ => .lm ((l[(i + j) / 2]).dv) rfl) ?_
  refine .v 0 2 [1] rfl rfl (fun _ _ => .lp (e.dv) rfl) ?_
  refine .v 0 2 [] rfl rfl (fun _ _ => .callvf0 rfl rfl cf114 rfl ⟨trivial, trivial, trivial⟩ (order_any l[(i + j) / 2] e)) ?_
  refine .y 1 2 rfl (by kernel_rfl) ?_
  refine .q 0 2 rfl rfl (fun h2 => ?_) (fun h2 => ?_)
  ·skip
   have hneg := of_decide_eq_true h2
   refine .t 1 2 rfl rfl (.bv (.int .i64 (((i + j) / 2 + 1 : Nat) : Int)) rfl (congrArg _ (wrap_succ hm hl))) ?_
   exact .rd 1 2 id (fun _ _ e => e) rfl (((i + j) / 2 + 1, j, f - 1)) ⟨by show (i + j) / 2 + 1 ≤ j; omega, i2, by show j - ((i + j) / 2 + 1) ≤ f - 1; omega, by rw [bsGo_step hij i3, ordAt_get hm, if_pos hneg] at i4; exact i4⟩ (by show j - ((i + j) / 2 + 1) < j - i; omega) rfl rfl rfl
  ·skip
   have hneg := of_decide_eq_false h2
   exact .rd 2 2 id (fun _ _ e => e) rfl ((i, (i + j) / 2, f - 1)) ⟨by show i ≤ (i + j) / 2; omega, by show (i + j) / 2 ≤ l.length; omega, by show (i + j) / 2 - i ≤ f - 1; omega, by rw [bsGo_step hij i3, ordAt_get hm, if_neg hneg] at i4; exact i4⟩ (by show (i + j) / 2 - i < j - i; omega) rfl rfl rfl
 ·skip
  have hij : i = j := by have q : ¬ ((i : Int) < (j : Int)) := of_decide_eq_false h1; omega
  subst hij
  rw [bsGo_end (Nat.lt_irrefl i)] at i4
  subst i4
  by_cases hn : bsI l e.nm e.ver < l.length
  ·skip
   have hp : placeB l e.nm e.ver = decide (ordF e.nm e.ver l[bsI l e.nm e.ver] = 0) := by unfold placeB; rw [decide_eq_true hn, Bool.true_and, ordAt_get hn]
   refine .d 0 2 rfl ?_
   refine .v 3 2 [] rfl rfl (fun _ _ => .bv (.bool true) rfl (congrArg Value.bool (decide_eq_true (by omega)))) ?_
   refine .v 4 2 [] rfl rfl (fun _ _ => .idx (l[bsI l e.nm e.ver]) rfl rfl rfl rfl et33 (fun _ => rfl) (Int.natCast_nonneg _) (get_nat hn)) ?_
   refine .v 0 2 [] rfl rfl (fun _ _ => .lm ((l[bsI l e.nm e.ver]).dv) rfl) ?_
   refine .v 0 2 [1] rfl rfl (fun _ _ => .lp (e.dv) rfl) ?_
   refine .v 0 2 [] rfl rfl (fun _ _ => .callvf0 rfl rfl cf114 rfl ⟨trivial, trivial, trivial⟩ (order_any l[bsI l e.nm e.ver] e)) ?_
   refine .y 4 2 rfl (by kernel_rfl) ?_
   rw [hp]
   exact .z 0 2 rfl (TE.rettf rfl rfl rfl ⟨trivial, trivial, trivial⟩)
  ·skip
   have hp : placeB l e.nm e.ver = false := by unfold placeB; rw [decide_eq_false hn, Bool.false_and]
   refine .d 0 2 rfl ?_
   refine .v 3 2 [] rfl rfl (fun _ _ => .bv (.bool false) rfl (congrArg Value.bool (decide_eq_false (by omega)))) ?_
   refine .y 12 2 rfl (by kernel_rfl) ?_
   rw [hp]
   exact .z 0 2 rfl (TE.rettf rfl rfl rfl ⟨trivial, trivial, trivial⟩)
theorem place_any (l : List Kn) (nm : List UInt8) (v : Int) (hl : l.length ≤ 140737488355328) : PF Tryz.prog 84 [slT Kn.dv 4 l, .v (strV nm), .v (.int .i64 v)] (.tp [.v (.int .i64 (bsI l nm v)), .v (.bool (placeB l nm v))]) := by
 refine PF.enter (fn := Tryz.f84) Tryz.func84 rfl Tryz.ntmps84 rfl (fun w0 => .w ?_)
 refine .t 6 1 rfl rfl (.cf (bs_any l ⟨nm, v, 0⟩ hl) rfl) ?_
 exact .z 4 1 rfl (TE.rettf rfl rfl rfl ⟨trivial, trivial, trivial⟩)
theorem latest_any (l : List Kn) (nm : List UInt8) (hl : l.length ≤ 140737488355328) : PF Tryz.prog 82 [slT Kn.dv 4 l, .v (strV nm)] (.tp [.ag (latP l nm).1.dv, .v (.bool (latP l nm).2)]) := by
 refine PF.enter (fn := Tryz.f82) Tryz.func82 rfl Tryz.ntmps82 rfl (fun w0 => .w ?_)
 refine .t 4 1 rfl rfl (.cf (place_any l nm 1073741825 hl) rfl) ?_
 by_cases hz : bsI l nm 1073741825 = 0
 ·skip
  have e : latP l nm = (zeroK, false) := by unfold latP; rw [hz]; split <;> rfl
  refine .t 6 2 rfl rfl (.bv (.bool true) rfl (congrArg Value.bool (decide_eq_true (by omega)))) ?_
  rw [e]
  exact .z 15 2 rfl (TE.rettf rfl rfl rfl ⟨pl_ag (pl_kn (zeroK)), trivial, trivial⟩)
 ·skip
  have hi : bsI l nm 1073741825 - 1 < l.length := by have := bsI_le l nm 1073741825; omega
  have hw : IntKind.i64.wrap ((bsI l nm 1073741825 : Int) - 1) = ((bsI l nm 1073741825 - 1 : Nat) : Int) := by have := bsI_le l nm 1073741825; rw [IntKind.wrap_i64]; omega
  refine .t 6 2 rfl rfl (.bv (.bool false) rfl (congrArg Value.bool (decide_eq_false (by omega)))) ?_
  refine .t 3 2 rfl rfl (.bv (.int .i64 ((bsI l nm 1073741825 - 1 : Nat) : Int)) rfl (congrArg _ hw)) ?_
  refine .t 0 2 rfl rfl (.idx (l[bsI l nm 1073741825 - 1]) rfl rfl rfl rfl et33 (fun _ => rfl) (Int.natCast_nonneg _) (get_nat hi)) ?_
  refine .q 6 2 rfl rfl (fun h3 => ?_) (fun h3 => ?_)
  ·skip
   have hne : ¬ (l[bsI l nm 1073741825 - 1].nm = nm) := by simpa using h3
   have e : latP l nm = (zeroK, false) := by unfold latP; rw [List.getElem?_eq_getElem hi]; simp only [if_neg hz, if_neg hne]
   rw [e]
   exact .z 3 2 rfl (TE.rettf rfl rfl rfl ⟨pl_ag (pl_kn (zeroK)), trivial, trivial⟩)
  ·skip
   have hne : l[bsI l nm 1073741825 - 1].nm = nm := by simpa using h3
   have e : latP l nm = (l[bsI l nm 1073741825 - 1], true) := by unfold latP; rw [List.getElem?_eq_getElem hi]; simp only [if_neg hz, if_pos hne]
   refine .t 2 2 rfl rfl (.bv (.int .i64 ((bsI l nm 1073741825 - 1 : Nat) : Int)) rfl (congrArg _ hw)) ?_
   refine .t 0 2 rfl rfl (.idx (l[bsI l nm 1073741825 - 1]) rfl rfl rfl rfl et33 (fun _ => rfl) (Int.natCast_nonneg _) (get_nat hi)) ?_
   rw [e]
   exact .z 3 2 rfl (TE.rettf rfl rfl rfl ⟨pl_ag (pl_kn (l[bsI l nm 1073741825 - 1])), trivial, trivial⟩)
end Go.Proofs.YtmjokdhhniblgaaGreat
/-
  The next version, the references' find.
-/
namespace Go.Proofs.YtmjokdhhniblgaaGreat
set_option linter.unusedVariables false
set_option linter.unusedSimpArgs false
open Go.RowKit Pl
set_option maxRecDepth 100000
set_option maxHeartbeats 3200000
theorem rlatest_any (l : List Kn) (nm : List UInt8) (hl : l.length ≤ 140737488355328) : PF Tryz.prog 9 [slT Kn.dv 4 l, .v (strV nm)] (.tp [.ag (latR l nm).1.dv, .v (.bool (latR l nm).2)]) := by
 refine PF.enter (fn := Tryz.f9) Tryz.func9 rfl Tryz.ntmps9 rfl (fun w0 => .w ?_)
 refine .lo (T := Nat × Kn × Bool) 5 1 rfl (fun x => x.1 ≤ l.length ∧ latR (l.take x.1) nm = x.2) (fun x => l.length - x.1) [0, 1] [] (fun x => [(4, .ptr 1 0), (6, .ptr 2 0), (7, .f (.v (.bool x.2.2))), (8, .f (.v (.int .i64 x.1)))]) (fun x => [(1, .box 40 zeroK.dv), (2, .box 40 x.2.1.dv)]) ((0, zeroK, false)) rfl rfl ⟨Nat.zero_le _, rfl⟩ rfl rfl rfl (fun x hI => ?_)
 obtain ⟨k, q, ok⟩ := x
 obtain ⟨hk, hr⟩ := hI
 refine .q 4 3 rfl rfl (fun h1 => ?_) (fun h1 => ?_)
 ·skip
  have hlt : k < l.length := by have q : (k : Int) < (l.length : Int) := of_decide_eq_true h1; omega
  by_cases hn : (l[k]).nm = nm
  ·skip
   cases ok with
   | true =>
    by_cases hv : q.ver < (l[k]).ver
    ·skip
     refine .d 0 3 rfl ?_
     refine .v 2 3 [] rfl rfl (fun _ _ => .idx (l[k]) rfl rfl rfl rfl et33 (fun _ => rfl) (Int.natCast_nonneg k) (get_nat hlt)) ?_
     refine .v 4 3 [] rfl rfl (fun _ _ => .bv (.bool true) rfl (congrArg Value.bool (decide_eq_true hn))) ?_
     refine .v 6 3 [] rfl rfl (fun _ _ => .idx (l[k]) rfl rfl rfl rfl et33 (fun _ => rfl) (Int.natCast_nonneg k) (get_nat hlt)) ?_
     refine .v 6 3 [] rfl rfl (fun _ _ => .bv (.bool true) rfl (congrArg Value.bool (decide_eq_true hv))) ?_
     refine .y 2 3 rfl (by kernel_rfl) ?_
     refine .t 3 3 rfl rfl (.idx (l[k]) rfl rfl rfl rfl et33 (fun _ => rfl) (Int.natCast_nonneg k) (get_nat hlt)) ?_
     refine .t 4 3 rfl rfl (.bv (.int .i64 ((k + 1 : Nat) : Int)) rfl (congrArg _ (wrap_succ hlt hl))) ?_
     exact .rd 1 3 id (fun _ _ e => e) rfl ((k + 1, l[k], true)) ⟨hlt, by rw [latR_snoc hlt, hr]; simp [latStep, hn, hv]⟩ (by show _ - (k + 1) < _ - k; omega) rfl rfl rfl
    ·skip
     refine .d 0 3 rfl ?_
     refine .v 2 3 [] rfl rfl (fun _ _ => .idx (l[k]) rfl rfl rfl rfl et33 (fun _ => rfl) (Int.natCast_nonneg k) (get_nat hlt)) ?_
     refine .v 4 3 [] rfl rfl (fun _ _ => .bv (.bool true) rfl (congrArg Value.bool (decide_eq_true hn))) ?_
     refine .v 6 3 [] rfl rfl (fun _ _ => .idx (l[k]) rfl rfl rfl rfl et33 (fun _ => rfl) (Int.natCast_nonneg k) (get_nat hlt)) ?_
     refine .v 6 3 [] rfl rfl (fun _ _ => .bv (.bool false) rfl (congrArg Value.bool (decide_eq_false hv))) ?_
     refine .y 2 3 rfl (by kernel_rfl) ?_
     refine .t 2 3 rfl rfl (.bv (.int .i64 ((k + 1 : Nat) : Int)) rfl (congrArg _ (wrap_succ hlt hl))) ?_
     exact .rd 1 3 id (fun _ _ e => e) rfl ((k + 1, q, true)) ⟨hlt, by rw [latR_snoc hlt, hr]; simp [latStep, hn, hv]⟩ (by show _ - (k + 1) < _ - k; omega) rfl rfl rfl
   | false =>
    refine .d 0 3 rfl ?_
    refine .v 2 3 [] rfl rfl (fun _ _ => .idx (l[k]) rfl rfl rfl rfl et33 (fun _ => rfl) (Int.natCast_nonneg k) (get_nat hlt)) ?_
    refine .v 4 3 [] rfl rfl (fun _ _ => .bv (.bool true) rfl (congrArg Value.bool (decide_eq_true hn))) ?_
    refine .y 16 3 rfl (by kernel_rfl) ?_
    refine .t 3 3 rfl rfl (.idx (l[k]) rfl rfl rfl rfl et33 (fun _ => rfl) (Int.natCast_nonneg k) (get_nat hlt)) ?_
    refine .t 4 3 rfl rfl (.bv (.int .i64 ((k + 1 : Nat) : Int)) rfl (congrArg _ (wrap_succ hlt hl))) ?_
    exact .rd 1 3 id (fun _ _ e => e) rfl ((k + 1, l[k], true)) ⟨hlt, by rw [latR_snoc hlt, hr]; simp [latStep, hn]⟩ (by show _ - (k + 1) < _ - k; omega) rfl rfl rfl
  ·skip
   refine .d 0 3 rfl ?_
   refine .v 2 3 [] rfl rfl (fun _ _ => .idx (l[k]) rfl rfl rfl rfl et33 (fun _ => rfl) (Int.natCast_nonneg k) (get_nat hlt)) ?_
   refine .v 4 3 [] rfl rfl (fun _ _ => .bv (.bool false) rfl (congrArg Value.bool (decide_eq_false hn))) ?_
   refine .y 16 3 rfl (by kernel_rfl) ?_
   refine .t 2 3 rfl rfl (.bv (.int .i64 ((k + 1 : Nat) : Int)) rfl (congrArg _ (wrap_succ hlt hl))) ?_
   exact .rd 1 3 id (fun _ _ e => e) rfl ((k + 1, q, ok)) ⟨hlt, by rw [latR_snoc hlt, hr]; simp [latStep, hn]⟩ (by show _ - (k + 1) < _ - k; omega) rfl rfl rfl
 ·skip
  have hlt : k = l.length := by have h0 : ¬ ((k : Int) < (l.length : Int)) := of_decide_eq_false h1; have h1 : k ≤ l.length := hk; omega
  subst hlt
  have hr' : latR l nm = (q, ok) := by have h1 : latR (l.take l.length) nm = (q, ok) := hr; rwa [List.take_length] at h1
  rw [hr']
  exact .z 4 3 rfl (TE.rettf rfl rfl rfl ⟨pl_ag (pl_kn (_)), trivial, trivial⟩)
end Go.Proofs.YtmjokdhhniblgaaGreat

