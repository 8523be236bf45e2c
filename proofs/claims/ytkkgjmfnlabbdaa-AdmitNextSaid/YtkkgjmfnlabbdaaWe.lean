/-
  The next version, the references' find.
-/
import Derived.Test.YtkkgjmfnlabbdaaWd
namespace Go.Proofs.Ytkkgjmfnlabbdaa
set_option linter.unusedVariables false
set_option linter.unusedSimpArgs false
open Go.RowKit Pl

theorem cf17 : cfn Try.prog 17 = true := by kernel_rfl
theorem cf28 : cfn Try.prog 28 = true := by kernel_rfl
theorem cf29 : cfn Try.prog 29 = true := by kernel_rfl
theorem et30 : elt Try.prog 30 = some (52, 9) := by kernel_rfl
theorem fo27_0 : fo Try.prog 27 0 = some 0 := by kernel_rfl
theorem fo27_1 : fo Try.prog 27 1 = some 1 := by kernel_rfl
theorem fo27_2 : fo Try.prog 27 2 = some 2 := by kernel_rfl
theorem fo48_2 : fo Try.prog 48 2 = some 2 := by kernel_rfl
theorem fo52_0 : fo Try.prog 52 0 = some 0 := by kernel_rfl
theorem is30 : isSl Try.prog 30 = some true := by kernel_rfl
theorem sz27 : szt Try.prog 27 = some 6 := by kernel_rfl
theorem sz48 : szt Try.prog 48 = some 3 := by kernel_rfl
theorem sz52 : szt Try.prog 52 = some 9 := by kernel_rfl
theorem tk23 : tyk Try.prog 23 = some none := by kernel_rfl
theorem tk27 : tyk Try.prog 27 = some (some 6) := by kernel_rfl
theorem tk52 : tyk Try.prog 52 = some (some 9) := by kernel_rfl
theorem zc27 : zc Try.prog 27 = some [.string ⟨#[]⟩, .int .i64 0, .int .u64 0, .int .i64 0, .int .u64 0, .int .u64 0] := by kernel_rfl
theorem zc48 : zc Try.prog 48 = some [.string ⟨#[]⟩, .int .i64 0, .int .u64 0] := by kernel_rfl
theorem zc52 : zc Try.prog 52 = some [.string ⟨#[]⟩, .int .i64 0, .int .u64 0, .int .i64 0, .int .u64 0, .int .u64 0, .int .i64 0, .int .i64 0, .bool false] := by kernel_rfl

set_option maxRecDepth 100000 in
set_option maxHeartbeats 1600000 in
theorem rlatest_any (l : List Kn) (nm : List UInt8) (hl : l.length ≤ 140737488355328) : PF Try.prog 17 [slT Kn.dv 4 l, .v (strV nm)] (.tp [.ag (latR l nm).1.dv, .v (.bool (latR l nm).2)]) := by
  refine PF.enter (fn := Try.f17) Try.func17 rfl Try.ntmps17 rfl (fun w0 => ?_)
  refine .seq ?_
  refine .region ?_
  refine .step rfl (.alloc 1 rfl rfl zc50 rfl) ?_
  refine .step rfl (.assign rfl rfl) ?_
  refine .nil ?_
  refine .next ?_
  refine .seq ?_
  refine .region ?_
  refine .step rfl (.alloc 2 rfl rfl zc50 rfl) ?_
  refine .nil ?_
  refine .next ?_
  refine .seq ?_
  refine .region ?_
  refine .step rfl (.assign rfl rfl) ?_
  refine .nil ?_
  refine .next ?_
  refine .seq ?_
  refine .seq ?_
  refine .region ?_
  refine .step rfl (.assign rfl rfl) ?_
  refine .nil ?_
  refine .next ?_
  refine .block ?_
  refine TC.loop (S := Nat × Kn × Bool) (fun x => x.1 ≤ l.length ∧ latR (l.take x.1) nm = x.2) (fun x => l.length - x.1) (fun x => [(0, .d (slT Kn.dv 4 l)), (1, .d (.v (strV nm))), (4, .ptr 1 0), (6, .ptr 2 0), (7, .f (.v (.bool x.2.2))), (8, .f (.v (.int .i64 x.1)))]) (fun x => [(1, .box 50 zeroK.dv), (2, .box 50 x.2.1.dv)]) ((0, zeroK, false)) ⟨Nat.zero_le _, rfl⟩ ⟨⟨rfl, rfl⟩, ⟨rfl, rfl⟩, ⟨rfl, rfl⟩, ⟨rfl, rfl⟩, ⟨rfl, rfl⟩, ⟨rfl, rfl⟩, trivial⟩ ⟨.inr rfl, .inr rfl, trivial⟩ (fun x hI => ?_)
  obtain ⟨k, q, ok⟩ := x
  obtain ⟨hk, hr⟩ := hI
  refine .seq ?_
  refine .seq ?_
  refine .region ?_
  refine .step rfl (.move rfl rfl) ?_
  refine .step rfl (.move rfl rfl) ?_
  refine .step rfl (.len rfl rfl ⟨_, _, rfl⟩ is29) ?_
  refine .step rfl (.bin rfl rfl rfl rfl) ?_
  refine .nil ?_
  refine .next ?_
  refine .cond rfl (fun h1 => ?_) (fun h1 => ?_)
  · skip
    have hlt : k < l.length := by have q : (k : Int) < (l.length : Int) := of_decide_eq_true h1; omega
    refine .skip ?_
    refine .next ?_
    refine .seq ?_
    refine .block ?_
    refine .seq ?_
    by_cases hn : (l[k]).nm = nm
    · skip
      cases ok with
      | true =>
        by_cases hv : q.ver < (l[k]).ver
        · skip
          refine .draw mixed [Ro.mk _ (Eff.mk (some (15, _)) []) [], Ro.mk _ (Eff.mk (some (16, _)) []) [], Ro.mk _ (Eff.mk (some (17, _)) []) [], Ro.mk _ (Eff.mk (some (18, _)) []) [], Ro.mk _ (Eff.mk (some (19, _)) []) [], Ro.mk _ (Eff.mk (some (20, _)) []) [], Ro.mk _ (Eff.mk (some (21, _)) []) [], Ro.mk _ (Eff.mk (some (22, _)) []) [], Ro.mk _ (Eff.mk (some (23, _)) []) [], Ro.mk _ (Eff.mk (some (24, _)) []) [], Ro.mk _ (Eff.mk (some (25, _)) []) [], Ro.mk _ (Eff.mk (some (26, _)) []) [], Ro.mk _ (Eff.mk (some (27, _)) []) [], Ro.mk _ (Eff.mk (some (28, _)) []) [], Ro.mk _ (Eff.mk (some (29, _)) []) [], Ro.mk _ (Eff.mk (some (30, _)) []) [], Ro.mk _ (Eff.mk (some (31, _)) []) [], Ro.mk _ (Eff.mk (some (32, _)) []) [], Ro.mk _ (Eff.mk (some (33, _)) []) [2], Ro.mk _ (Eff.mk (some (34, _)) []) [2], Ro.mk _ (Eff.mk (some (35, _)) []) [2], Ro.mk _ (Eff.mk (some (36, _)) []) [], Ro.mk _ (Eff.mk (some (37, _)) []) [], Ro.mk _ (Eff.mk (some (38, _)) []) []] rfl ⟨(fun _ _ => .move rfl rfl), (fun _ _ => .move rfl rfl), (fun _ _ => .idx (l[k]) rfl rfl rfl rfl et29 (fun _ => rfl) (Int.natCast_nonneg k) (get_nat hlt)), (fun _ _ => .fielde rfl rfl rfl fo50_0), (fun _ _ => .fielde rfl rfl rfl fo48_0), (fun _ _ => .lde rfl rfl rfl rfl tk9), (fun _ _ => .move rfl rfl), (fun _ _ => .binv (.bool true) rfl rfl rfl rfl (congrArg Value.bool (decide_eq_true hn))), (fun _ _ => .move rfl rfl), (.inr ⟨23, _, rfl, rfl, rfl, rfl, fun _ _ => .move rfl rfl⟩), (.inr ⟨23, _, rfl, rfl, rfl, rfl, fun _ _ => .un rfl rfl rfl⟩), (.inr ⟨23, _, rfl, rfl, rfl, rfl, fun _ _ => .move rfl rfl⟩), (.inr ⟨26, _, rfl, rfl, rfl, rfl, fun _ _ => .move rfl rfl⟩), (.inr ⟨26, _, rfl, rfl, rfl, rfl, fun _ _ => .move rfl rfl⟩), (.inr ⟨26, _, rfl, rfl, rfl, rfl, fun _ _ => .idx (l[k]) rfl rfl rfl rfl et29 (fun _ => rfl) (Int.natCast_nonneg k) (get_nat hlt)⟩), (.inr ⟨26, _, rfl, rfl, rfl, rfl, fun _ _ => .fielde rfl rfl rfl fo50_0⟩), (.inr ⟨26, _, rfl, rfl, rfl, rfl, fun _ _ => .fielde rfl rfl rfl fo48_1⟩), (.inr ⟨26, _, rfl, rfl, rfl, rfl, fun _ _ => .lde rfl rfl rfl rfl tk3⟩), (.inr ⟨26, _, rfl, rfl, rfl, rfl, fun _ _ => .fieldp rfl rfl rfl rfl fo50_0⟩), (.inr ⟨26, _, rfl, rfl, rfl, rfl, fun _ _ => .fieldp rfl rfl rfl rfl fo48_1⟩), (.inr ⟨26, _, rfl, rfl, rfl, rfl, fun _ _ => .ldp rfl rfl rfl rfl rfl tk3⟩), (.inr ⟨26, _, rfl, rfl, rfl, rfl, fun _ _ => .binv (.bool true) rfl rfl rfl rfl (congrArg Value.bool (decide_eq_true hv))⟩), (.inr ⟨23, _, rfl, rfl, rfl, rfl, fun _ _ => .pick rfl rfl rfl⟩), (fun _ _ => .pick rfl rfl rfl), trivial⟩ (by kernel_rfl) ?_
          refine .next ?_
          refine .cond rfl (fun h5 => ?_) (fun h5 => absurd h5 (by decide))
          refine .region ?_
          refine .step rfl (.move rfl rfl) ?_
          refine .step rfl (.move rfl rfl) ?_
          refine .step rfl (.idx (l[k]) rfl rfl rfl rfl et29 (fun _ => rfl) (Int.natCast_nonneg k) (get_nat hlt)) ?_
          refine .step rfl (.ldem rfl rfl rfl rfl rfl tk50) ?_
          refine .step rfl (.store rfl rfl rfl sz50 rfl rfl) ?_
          refine .step rfl (.assign rfl rfl) ?_
          refine .nil ?_
          refine TE.blk ?_
          refine .next ?_
          refine .region ?_
          refine .step rfl (.move rfl rfl) ?_
          refine .step rfl (.binv (.int .i64 ((k + 1 : Nat) : Int)) rfl rfl rfl rfl (congrArg _ (wrap_succ hlt hl))) ?_
          refine .step rfl (.assign rfl rfl) ?_
          refine .nil ?_
          exact TE.round id (fun _ _ e => e) ((k + 1, l[k], true)) ⟨hlt, by rw [latR_snoc hlt, hr]; simp [latStep, hn, hv]⟩ (by show _ - (k + 1) < _ - k; omega) ⟨⟨rfl, rfl⟩, ⟨rfl, rfl⟩, ⟨rfl, rfl⟩, ⟨rfl, rfl⟩, ⟨rfl, rfl⟩, ⟨rfl, rfl⟩, trivial⟩ ⟨.inr rfl, .inr rfl, trivial⟩
        · skip
          refine .draw mixed [Ro.mk _ (Eff.mk (some (15, _)) []) [], Ro.mk _ (Eff.mk (some (16, _)) []) [], Ro.mk _ (Eff.mk (some (17, _)) []) [], Ro.mk _ (Eff.mk (some (18, _)) []) [], Ro.mk _ (Eff.mk (some (19, _)) []) [], Ro.mk _ (Eff.mk (some (20, _)) []) [], Ro.mk _ (Eff.mk (some (21, _)) []) [], Ro.mk _ (Eff.mk (some (22, _)) []) [], Ro.mk _ (Eff.mk (some (23, _)) []) [], Ro.mk _ (Eff.mk (some (24, _)) []) [], Ro.mk _ (Eff.mk (some (25, _)) []) [], Ro.mk _ (Eff.mk (some (26, _)) []) [], Ro.mk _ (Eff.mk (some (27, _)) []) [], Ro.mk _ (Eff.mk (some (28, _)) []) [], Ro.mk _ (Eff.mk (some (29, _)) []) [], Ro.mk _ (Eff.mk (some (30, _)) []) [], Ro.mk _ (Eff.mk (some (31, _)) []) [], Ro.mk _ (Eff.mk (some (32, _)) []) [], Ro.mk _ (Eff.mk (some (33, _)) []) [2], Ro.mk _ (Eff.mk (some (34, _)) []) [2], Ro.mk _ (Eff.mk (some (35, _)) []) [2], Ro.mk _ (Eff.mk (some (36, _)) []) [], Ro.mk _ (Eff.mk (some (37, _)) []) [], Ro.mk _ (Eff.mk (some (38, _)) []) []] rfl ⟨(fun _ _ => .move rfl rfl), (fun _ _ => .move rfl rfl), (fun _ _ => .idx (l[k]) rfl rfl rfl rfl et29 (fun _ => rfl) (Int.natCast_nonneg k) (get_nat hlt)), (fun _ _ => .fielde rfl rfl rfl fo50_0), (fun _ _ => .fielde rfl rfl rfl fo48_0), (fun _ _ => .lde rfl rfl rfl rfl tk9), (fun _ _ => .move rfl rfl), (fun _ _ => .binv (.bool true) rfl rfl rfl rfl (congrArg Value.bool (decide_eq_true hn))), (fun _ _ => .move rfl rfl), (.inr ⟨23, _, rfl, rfl, rfl, rfl, fun _ _ => .move rfl rfl⟩), (.inr ⟨23, _, rfl, rfl, rfl, rfl, fun _ _ => .un rfl rfl rfl⟩), (.inr ⟨23, _, rfl, rfl, rfl, rfl, fun _ _ => .move rfl rfl⟩), (.inr ⟨26, _, rfl, rfl, rfl, rfl, fun _ _ => .move rfl rfl⟩), (.inr ⟨26, _, rfl, rfl, rfl, rfl, fun _ _ => .move rfl rfl⟩), (.inr ⟨26, _, rfl, rfl, rfl, rfl, fun _ _ => .idx (l[k]) rfl rfl rfl rfl et29 (fun _ => rfl) (Int.natCast_nonneg k) (get_nat hlt)⟩), (.inr ⟨26, _, rfl, rfl, rfl, rfl, fun _ _ => .fielde rfl rfl rfl fo50_0⟩), (.inr ⟨26, _, rfl, rfl, rfl, rfl, fun _ _ => .fielde rfl rfl rfl fo48_1⟩), (.inr ⟨26, _, rfl, rfl, rfl, rfl, fun _ _ => .lde rfl rfl rfl rfl tk3⟩), (.inr ⟨26, _, rfl, rfl, rfl, rfl, fun _ _ => .fieldp rfl rfl rfl rfl fo50_0⟩), (.inr ⟨26, _, rfl, rfl, rfl, rfl, fun _ _ => .fieldp rfl rfl rfl rfl fo48_1⟩), (.inr ⟨26, _, rfl, rfl, rfl, rfl, fun _ _ => .ldp rfl rfl rfl rfl rfl tk3⟩), (.inr ⟨26, _, rfl, rfl, rfl, rfl, fun _ _ => .binv (.bool false) rfl rfl rfl rfl (congrArg Value.bool (decide_eq_false hv))⟩), (.inr ⟨23, _, rfl, rfl, rfl, rfl, fun _ _ => .pick rfl rfl rfl⟩), (fun _ _ => .pick rfl rfl rfl), trivial⟩ (by kernel_rfl) ?_
          refine .next ?_
          refine .cond rfl (fun h6 => absurd h6 (by decide)) (fun h6 => ?_)
          refine .skip ?_
          refine TE.blk ?_
          refine .next ?_
          refine .region ?_
          refine .step rfl (.move rfl rfl) ?_
          refine .step rfl (.binv (.int .i64 ((k + 1 : Nat) : Int)) rfl rfl rfl rfl (congrArg _ (wrap_succ hlt hl))) ?_
          refine .step rfl (.assign rfl rfl) ?_
          refine .nil ?_
          exact TE.round id (fun _ _ e => e) ((k + 1, q, true)) ⟨hlt, by rw [latR_snoc hlt, hr]; simp [latStep, hn, hv]⟩ (by show _ - (k + 1) < _ - k; omega) ⟨⟨rfl, rfl⟩, ⟨rfl, rfl⟩, ⟨rfl, rfl⟩, ⟨rfl, rfl⟩, ⟨rfl, rfl⟩, ⟨rfl, rfl⟩, trivial⟩ ⟨.inr rfl, .inr rfl, trivial⟩
      | false =>
        refine .draw mixed [Ro.mk _ (Eff.mk (some (15, _)) []) [], Ro.mk _ (Eff.mk (some (16, _)) []) [], Ro.mk _ (Eff.mk (some (17, _)) []) [], Ro.mk _ (Eff.mk (some (18, _)) []) [], Ro.mk _ (Eff.mk (some (19, _)) []) [], Ro.mk _ (Eff.mk (some (20, _)) []) [], Ro.mk _ (Eff.mk (some (21, _)) []) [], Ro.mk _ (Eff.mk (some (22, _)) []) [], Ro.mk _ (Eff.mk (some (23, _)) []) [], Ro.mk _ (Eff.mk (some (24, _)) []) [], Ro.mk _ (Eff.mk (some (25, _)) []) [], Ro.mk _ (Eff.mk (some (26, _)) []) [], Ro.mk _ (Eff.mk (some (27, _)) []) [], Ro.mk _ (Eff.mk (some (28, _)) []) [], Ro.mk _ (Eff.mk (some (29, _)) []) [], Ro.mk _ (Eff.mk (some (30, _)) []) [], Ro.mk _ (Eff.mk (some (31, _)) []) [], Ro.mk _ (Eff.mk (some (32, _)) []) [], Ro.mk _ (Eff.mk (some (33, _)) []) [], Ro.mk _ (Eff.mk (some (34, _)) []) [], Ro.mk _ (Eff.mk (some (35, _)) []) [], Ro.mk _ (Eff.mk (some (36, _)) []) [], Ro.mk _ (Eff.mk (some (37, _)) []) [], Ro.mk _ (Eff.mk (some (38, _)) []) []] rfl ⟨(fun _ _ => .move rfl rfl), (fun _ _ => .move rfl rfl), (fun _ _ => .idx (l[k]) rfl rfl rfl rfl et29 (fun _ => rfl) (Int.natCast_nonneg k) (get_nat hlt)), (fun _ _ => .fielde rfl rfl rfl fo50_0), (fun _ _ => .fielde rfl rfl rfl fo48_0), (fun _ _ => .lde rfl rfl rfl rfl tk9), (fun _ _ => .move rfl rfl), (fun _ _ => .binv (.bool true) rfl rfl rfl rfl (congrArg Value.bool (decide_eq_true hn))), (fun _ _ => .move rfl rfl), (.inr ⟨23, _, rfl, rfl, rfl, rfl, fun _ _ => .move rfl rfl⟩), (.inr ⟨23, _, rfl, rfl, rfl, rfl, fun _ _ => .un rfl rfl rfl⟩), (.inr ⟨23, _, rfl, rfl, rfl, rfl, fun _ _ => .move rfl rfl⟩), (.inr ⟨26, _, rfl, rfl, rfl, rfl, 27, rfl, rfl, rfl⟩), (.inr ⟨26, _, rfl, rfl, rfl, rfl, 28, rfl, rfl, rfl⟩), (.inr ⟨26, _, rfl, rfl, rfl, rfl, 29, rfl, rfl, rfl⟩), (.inr ⟨26, _, rfl, rfl, rfl, rfl, 30, rfl, rfl, rfl⟩), (.inr ⟨26, _, rfl, rfl, rfl, rfl, 31, rfl, rfl, rfl⟩), (.inr ⟨26, _, rfl, rfl, rfl, rfl, 32, rfl, rfl, rfl⟩), (.inr ⟨26, _, rfl, rfl, rfl, rfl, 33, rfl, rfl, rfl⟩), (.inr ⟨26, _, rfl, rfl, rfl, rfl, 34, rfl, rfl, rfl⟩), (.inr ⟨26, _, rfl, rfl, rfl, rfl, 35, rfl, rfl, rfl⟩), (.inr ⟨26, _, rfl, rfl, rfl, rfl, 36, rfl, rfl, rfl⟩), (.inr ⟨23, _, rfl, rfl, rfl, rfl, fun _ _ => .pick rfl rfl rfl⟩), (fun _ _ => .pick rfl rfl rfl), trivial⟩ (by kernel_rfl) ?_
        refine .next ?_
        refine .cond rfl (fun h7 => ?_) (fun h7 => absurd h7 (by decide))
        refine .region ?_
        refine .step rfl (.move rfl rfl) ?_
        refine .step rfl (.move rfl rfl) ?_
        refine .step rfl (.idx (l[k]) rfl rfl rfl rfl et29 (fun _ => rfl) (Int.natCast_nonneg k) (get_nat hlt)) ?_
        refine .step rfl (.ldem rfl rfl rfl rfl rfl tk50) ?_
        refine .step rfl (.store rfl rfl rfl sz50 rfl rfl) ?_
        refine .step rfl (.assign rfl rfl) ?_
        refine .nil ?_
        refine TE.blk ?_
        refine .next ?_
        refine .region ?_
        refine .step rfl (.move rfl rfl) ?_
        refine .step rfl (.binv (.int .i64 ((k + 1 : Nat) : Int)) rfl rfl rfl rfl (congrArg _ (wrap_succ hlt hl))) ?_
        refine .step rfl (.assign rfl rfl) ?_
        refine .nil ?_
        exact TE.round id (fun _ _ e => e) ((k + 1, l[k], true)) ⟨hlt, by rw [latR_snoc hlt, hr]; simp [latStep, hn]⟩ (by show _ - (k + 1) < _ - k; omega) ⟨⟨rfl, rfl⟩, ⟨rfl, rfl⟩, ⟨rfl, rfl⟩, ⟨rfl, rfl⟩, ⟨rfl, rfl⟩, ⟨rfl, rfl⟩, trivial⟩ ⟨.inr rfl, .inr rfl, trivial⟩
    · skip
      refine .draw mixed [Ro.mk _ (Eff.mk (some (15, _)) []) [], Ro.mk _ (Eff.mk (some (16, _)) []) [], Ro.mk _ (Eff.mk (some (17, _)) []) [], Ro.mk _ (Eff.mk (some (18, _)) []) [], Ro.mk _ (Eff.mk (some (19, _)) []) [], Ro.mk _ (Eff.mk (some (20, _)) []) [], Ro.mk _ (Eff.mk (some (21, _)) []) [], Ro.mk _ (Eff.mk (some (22, _)) []) [], Ro.mk _ (Eff.mk (some (23, _)) []) [], Ro.mk _ (Eff.mk (some (24, _)) []) [], Ro.mk _ (Eff.mk (some (25, _)) []) [], Ro.mk _ (Eff.mk (some (26, _)) []) [], Ro.mk _ (Eff.mk (some (27, _)) []) [], Ro.mk _ (Eff.mk (some (28, _)) []) [], Ro.mk _ (Eff.mk (some (29, _)) []) [], Ro.mk _ (Eff.mk (some (30, _)) []) [], Ro.mk _ (Eff.mk (some (31, _)) []) [], Ro.mk _ (Eff.mk (some (32, _)) []) [], Ro.mk _ (Eff.mk (some (33, _)) []) [], Ro.mk _ (Eff.mk (some (34, _)) []) [], Ro.mk _ (Eff.mk (some (35, _)) []) [], Ro.mk _ (Eff.mk (some (36, _)) []) [], Ro.mk _ (Eff.mk (some (37, _)) []) [], Ro.mk _ (Eff.mk (some (38, _)) []) []] rfl ⟨(fun _ _ => .move rfl rfl), (fun _ _ => .move rfl rfl), (fun _ _ => .idx (l[k]) rfl rfl rfl rfl et29 (fun _ => rfl) (Int.natCast_nonneg k) (get_nat hlt)), (fun _ _ => .fielde rfl rfl rfl fo50_0), (fun _ _ => .fielde rfl rfl rfl fo48_0), (fun _ _ => .lde rfl rfl rfl rfl tk9), (fun _ _ => .move rfl rfl), (fun _ _ => .binv (.bool false) rfl rfl rfl rfl (congrArg Value.bool (decide_eq_false hn))), (fun _ _ => .move rfl rfl), (.inr ⟨23, _, rfl, rfl, rfl, rfl, 24, rfl, rfl, rfl⟩), (.inr ⟨23, _, rfl, rfl, rfl, rfl, 25, rfl, rfl, rfl⟩), (.inr ⟨23, _, rfl, rfl, rfl, rfl, 26, rfl, rfl, rfl⟩), (.inl ⟨26, _, rfl, rfl, rfl, rfl, rfl, rfl⟩), (.inl ⟨26, _, rfl, rfl, rfl, rfl, rfl, rfl⟩), (.inl ⟨26, _, rfl, rfl, rfl, rfl, rfl, rfl⟩), (.inl ⟨26, _, rfl, rfl, rfl, rfl, rfl, rfl⟩), (.inl ⟨26, _, rfl, rfl, rfl, rfl, rfl, rfl⟩), (.inl ⟨26, _, rfl, rfl, rfl, rfl, rfl, rfl⟩), (.inl ⟨26, _, rfl, rfl, rfl, rfl, rfl, rfl⟩), (.inl ⟨26, _, rfl, rfl, rfl, rfl, rfl, rfl⟩), (.inl ⟨26, _, rfl, rfl, rfl, rfl, rfl, rfl⟩), (.inl ⟨26, _, rfl, rfl, rfl, rfl, rfl, rfl⟩), (.inr ⟨23, _, rfl, rfl, rfl, rfl, 37, rfl, rfl, rfl⟩), (fun _ _ => .pick rfl rfl rfl), trivial⟩ (by kernel_rfl) ?_
      refine .next ?_
      refine .cond rfl (fun h8 => absurd h8 (by decide)) (fun h8 => ?_)
      refine .skip ?_
      refine TE.blk ?_
      refine .next ?_
      refine .region ?_
      refine .step rfl (.move rfl rfl) ?_
      refine .step rfl (.binv (.int .i64 ((k + 1 : Nat) : Int)) rfl rfl rfl rfl (congrArg _ (wrap_succ hlt hl))) ?_
      refine .step rfl (.assign rfl rfl) ?_
      refine .nil ?_
      exact TE.round id (fun _ _ e => e) ((k + 1, q, ok)) ⟨hlt, by rw [latR_snoc hlt, hr]; simp [latStep, hn]⟩ (by show _ - (k + 1) < _ - k; omega) ⟨⟨rfl, rfl⟩, ⟨rfl, rfl⟩, ⟨rfl, rfl⟩, ⟨rfl, rfl⟩, ⟨rfl, rfl⟩, ⟨rfl, rfl⟩, trivial⟩ ⟨.inr rfl, .inr rfl, trivial⟩
  · skip
    have hlt : k = l.length := by have h0 : ¬ ((k : Int) < (l.length : Int)) := of_decide_eq_false h1; have h1 : k ≤ l.length := hk; omega
    subst hlt
    have hr' : latR l nm = (q, ok) := by have h1 : latR (l.take l.length) nm = (q, ok) := hr; rwa [List.take_length] at h1
    refine .exit ?_
    refine TE.pass ?_
    refine TE.pass ?_
    refine TE.here ?_
    refine .next ?_
    refine .seq ?_
    refine .region ?_
    refine .step rfl (.ldpm rfl rfl rfl rfl rfl rfl tk50) ?_
    refine .step rfl (.move rfl rfl) ?_
    refine .step rfl (.store rfl rfl rfl sz50 rfl rfl) ?_
    refine .step rfl (.assign rfl rfl) ?_
    refine .nil ?_
    refine .next ?_
    refine .ret ?_
    rw [hr']
    exact TE.rettf rfl rfl rfl ⟨pl_ag (pl_kn (_)), trivial, trivial⟩

set_option maxRecDepth 100000 in
set_option maxHeartbeats 1600000 in
theorem rfind_any (l : List Kn) (nm : List UInt8) (v : Int) (hl : l.length ≤ 140737488355328) : PF Try.prog 26 [slT Kn.dv 4 l, .v (strV nm), .v (.int .i64 v)] (.tp [.ag (findR l nm v).1.dv, .v (.bool (findR l nm v).2)]) := by
  refine PF.enter (fn := Try.f26) Try.func26 rfl Try.ntmps26 rfl (fun w0 => ?_)
  refine .seq ?_
  refine .region ?_
  refine .step rfl (.alloc 1 rfl rfl zc50 rfl) ?_
  refine .step rfl (.assign rfl rfl) ?_
  refine .nil ?_
  refine .next ?_
  refine .seq ?_
  refine .seq ?_
  refine .region ?_
  refine .step rfl (.assign rfl rfl) ?_
  refine .nil ?_
  refine .next ?_
  refine .block ?_
  refine TC.loop (S := Nat) (fun k => k ≤ l.length ∧ ∀ j (hj : j < l.length), j < k → ¬ (l[j].nm = nm ∧ l[j].ver = v)) (fun k => l.length - k) (fun k => [(0, .d (slT Kn.dv 4 l)), (1, .d (.v (strV nm))), (2, .d (.v (.int .i64 v))), (6, .ptr 1 0), (8, .f (.v (.int .i64 k)))]) (fun k => [(1, .box 50 zeroK.dv)]) (0) ⟨Nat.zero_le _, fun j _ h => absurd h (Nat.not_lt_zero j)⟩ ⟨⟨rfl, rfl⟩, ⟨rfl, rfl⟩, ⟨rfl, rfl⟩, ⟨rfl, rfl⟩, ⟨rfl, rfl⟩, trivial⟩ ⟨.inr rfl, trivial⟩ (fun k hI => ?_)
  obtain ⟨hk, hr⟩ := hI
  refine .seq ?_
  refine .seq ?_
  refine .region ?_
  refine .step rfl (.move rfl rfl) ?_
  refine .step rfl (.move rfl rfl) ?_
  refine .step rfl (.len rfl rfl ⟨_, _, rfl⟩ is29) ?_
  refine .step rfl (.bin rfl rfl rfl rfl) ?_
  refine .nil ?_
  refine .next ?_
  refine .cond rfl (fun h1 => ?_) (fun h1 => ?_)
  · skip
    have hlt : k < l.length := by have := of_decide_eq_true h1; omega
    refine .skip ?_
    refine .next ?_
    refine .seq ?_
    refine .block ?_
    refine .seq ?_
    by_cases hn : (l[k]).nm = nm
    · skip
      refine .region ?_
      refine .step rfl (.move rfl rfl) ?_
      refine .step rfl (.move rfl rfl) ?_
      refine .step rfl (.idx (l[k]) rfl rfl rfl rfl et29 (fun _ => rfl) (Int.natCast_nonneg k) (get_nat hlt)) ?_
      refine .step rfl (.fielde rfl rfl rfl fo50_0) ?_
      refine .step rfl (.fielde rfl rfl rfl fo48_0) ?_
      refine .step rfl (.lde rfl rfl rfl rfl tk9) ?_
      refine .step rfl (.move rfl rfl) ?_
      refine .step rfl (.binv (.bool true) rfl rfl rfl rfl (congrArg Value.bool (decide_eq_true hn))) ?_
      refine .step rfl (.move rfl rfl) ?_
      refine .go 23 rfl rfl rfl rfl (.move rfl rfl) ?_
      refine .go 23 rfl rfl rfl rfl (.move rfl rfl) ?_
      refine .go 23 rfl rfl rfl rfl (.idx (l[k]) rfl rfl rfl rfl et29 (fun _ => rfl) (Int.natCast_nonneg k) (get_nat hlt)) ?_
      refine .go 23 rfl rfl rfl rfl (.fielde rfl rfl rfl fo50_0) ?_
      refine .go 23 rfl rfl rfl rfl (.fielde rfl rfl rfl fo48_1) ?_
      refine .go 23 rfl rfl rfl rfl (.lde rfl rfl rfl rfl tk3) ?_
      refine .go 23 rfl rfl rfl rfl (.move rfl rfl) ?_
      refine .go 23 rfl rfl rfl rfl (.bin rfl rfl rfl rfl) ?_
      refine .step rfl (.pick rfl rfl rfl) ?_
      refine .nil ?_
      refine .next ?_
      refine .cond rfl (fun h3 => ?_) (fun h3 => ?_)
      · skip
        have hv : l[k].ver = v := of_decide_eq_true h3
        have e : findR l nm v = (l[k], true) := findR_at hlt hr ⟨hn, hv⟩
        refine .seq ?_
        refine .region ?_
        refine .step rfl (.move rfl rfl) ?_
        refine .step rfl (.move rfl rfl) ?_
        refine .step rfl (.idx (l[k]) rfl rfl rfl rfl et29 (fun _ => rfl) (Int.natCast_nonneg k) (get_nat hlt)) ?_
        refine .step rfl (.ldem rfl rfl rfl rfl rfl tk50) ?_
        refine .step rfl (.store rfl rfl rfl sz50 rfl rfl) ?_
        refine .step rfl (.assign rfl rfl) ?_
        refine .nil ?_
        refine .next ?_
        refine .ret ?_
        rw [e]
        exact TE.rettf rfl rfl rfl ⟨pl_ag (pl_kn (l[k])), trivial, trivial⟩
      · skip
        have hno : ¬ (l[k].nm = nm ∧ l[k].ver = v) := fun q => of_decide_eq_false h3 q.2
        refine .skip ?_
        refine TE.blk ?_
        refine .next ?_
        refine .region ?_
        refine .step rfl (.move rfl rfl) ?_
        refine .step rfl (.binv (.int .i64 ((k + 1 : Nat) : Int)) rfl rfl rfl rfl (congrArg _ (wrap_succ hlt hl))) ?_
        refine .step rfl (.assign rfl rfl) ?_
        refine .nil ?_
        exact TE.round id (fun _ _ e => e) (k + 1) ⟨hlt, fun j hj hjk => (Nat.lt_or_eq_of_le (Nat.le_of_lt_succ hjk)).elim (hr j hj) (fun e => by subst e; exact hno)⟩ (by omega) ⟨⟨rfl, rfl⟩, ⟨rfl, rfl⟩, ⟨rfl, rfl⟩, ⟨rfl, rfl⟩, ⟨rfl, rfl⟩, trivial⟩ ⟨.inr rfl, trivial⟩
    · skip
      have hno : ¬ (l[k].nm = nm ∧ l[k].ver = v) := fun q => hn q.1
      refine .region ?_
      refine .step rfl (.move rfl rfl) ?_
      refine .step rfl (.move rfl rfl) ?_
      refine .step rfl (.idx (l[k]) rfl rfl rfl rfl et29 (fun _ => rfl) (Int.natCast_nonneg k) (get_nat hlt)) ?_
      refine .step rfl (.fielde rfl rfl rfl fo50_0) ?_
      refine .step rfl (.fielde rfl rfl rfl fo48_0) ?_
      refine .step rfl (.lde rfl rfl rfl rfl tk9) ?_
      refine .step rfl (.move rfl rfl) ?_
      refine .step rfl (.binv (.bool false) rfl rfl rfl rfl (congrArg Value.bool (decide_eq_false hn))) ?_
      refine .step rfl (.move rfl rfl) ?_
      refine .no 23 rfl rfl rfl rfl rfl rfl rfl ?_
      refine .no 23 rfl rfl rfl rfl rfl rfl rfl ?_
      refine .no 23 rfl rfl rfl rfl rfl rfl rfl ?_
      refine .no 23 rfl rfl rfl rfl rfl rfl rfl ?_
      refine .no 23 rfl rfl rfl rfl rfl rfl rfl ?_
      refine .no 23 rfl rfl rfl rfl rfl rfl rfl ?_
      refine .no 23 rfl rfl rfl rfl rfl rfl rfl ?_
      refine .no 23 rfl rfl rfl rfl rfl rfl rfl ?_
      refine .step rfl (.pick rfl rfl rfl) ?_
      refine .nil ?_
      refine .next ?_
      refine .cond rfl (fun h4 => absurd h4 (by decide)) (fun h4 => ?_)
      refine .skip ?_
      refine TE.blk ?_
      refine .next ?_
      refine .region ?_
      refine .step rfl (.move rfl rfl) ?_
      refine .step rfl (.binv (.int .i64 ((k + 1 : Nat) : Int)) rfl rfl rfl rfl (congrArg _ (wrap_succ hlt hl))) ?_
      refine .step rfl (.assign rfl rfl) ?_
      refine .nil ?_
      exact TE.round id (fun _ _ e => e) (k + 1) ⟨hlt, fun j hj hjk => (Nat.lt_or_eq_of_le (Nat.le_of_lt_succ hjk)).elim (hr j hj) (fun e => by subst e; exact hno)⟩ (by omega) ⟨⟨rfl, rfl⟩, ⟨rfl, rfl⟩, ⟨rfl, rfl⟩, ⟨rfl, rfl⟩, ⟨rfl, rfl⟩, trivial⟩ ⟨.inr rfl, trivial⟩
  · skip
    have hlt : k = l.length := by have h0 := of_decide_eq_false h1; have h1 : k ≤ l.length := hk; omega
    have e : findR l nm v = (zeroK, false) := findR_none fun j hj => hr j hj (by omega)
    refine .exit ?_
    refine TE.pass ?_
    refine TE.pass ?_
    refine TE.here ?_
    refine .next ?_
    refine .seq ?_
    refine .region ?_
    refine .step rfl (.build rfl rfl sp50 rfl rfl) ?_
    refine .step rfl (.store rfl rfl rfl sz50 rfl rfl) ?_
    refine .step rfl (.assign rfl rfl) ?_
    refine .nil ?_
    refine .next ?_
    refine .ret ?_
    rw [e]
    exact TE.rettf rfl rfl rfl ⟨pl_ag (pl_kn (zeroK)), trivial, trivial⟩

set_option maxRecDepth 100000 in
set_option maxHeartbeats 1600000 in
theorem rnext_any (l : List Kn) (w : List Pe) (nm : List UInt8) (hl : l.length ≤ 140737488355328) (hw : w.length ≤ 140737488355328) : PF Try.prog 11 [slT Kn.dv 4 l, slT Pe.dv 9 w, .v (strV nm)] (.tp [.v (.int .i64 (i64w ((nextR l w nm).1 + 1))), .v (.int .u64 (nextR l w nm).2)]) := by
  refine PF.enter (fn := Try.f11) Try.func11 rfl Try.ntmps11 rfl (fun w0 => ?_)
  refine .seq ?_
  refine .region ?_
  refine .step rfl (.assign rfl rfl) ?_
  refine .step rfl (.assign rfl rfl) ?_
  refine .nil ?_
  refine .next ?_
  refine .seq ?_
  refine .region ?_
  refine .step rfl (.move rfl rfl) ?_
  refine .step rfl (.move rfl rfl) ?_
  refine .step rfl (.callf rfl cf17 rfl ⟨trivial, trivial, trivial⟩ (rlatest_any l nm hl)) ?_
  refine .step rfl (.move rfl rfl) ?_
  refine .step rfl (.extract rfl rfl rfl rfl) ?_
  refine .step rfl (.extract rfl rfl rfl rfl) ?_
  refine .step rfl (.alloc 1 rfl rfl zc50 rfl) ?_
  refine .step rfl (.store rfl rfl rfl sz50 rfl rfl) ?_
  refine .step rfl (.assign rfl rfl) ?_
  refine .nil ?_
  refine .next ?_
  refine .seq ?_
  refine .draw mixed [Ro.mk _ (Eff.mk (some (20, _)) []) [1], Ro.mk _ (Eff.mk (some (21, _)) []) [1], Ro.mk _ (Eff.mk (some (22, _)) []) [1], Ro.mk _ (Eff.mk (some (23, _)) []) [1], Ro.mk _ (Eff.mk (some (24, _)) []) [1], Ro.mk _ (Eff.mk (some (25, _)) []) [1], Ro.mk _ (Eff.mk (some (10, _)) []) [], Ro.mk _ (Eff.mk (some (11, _)) []) []] rfl ⟨(fun _ _ => .fieldp rfl rfl rfl rfl fo50_0), (fun _ _ => .fieldp rfl rfl rfl rfl fo48_1), (fun _ _ => .ldp rfl rfl rfl rfl rfl tk3), (fun _ _ => .fieldp rfl rfl rfl rfl fo50_0), (fun _ _ => .fieldp rfl rfl rfl rfl fo48_2), (fun _ _ => .ldp rfl rfl rfl rfl rfl tk23), (fun _ _ => .assign rfl rfl), (fun _ _ => .assign rfl rfl), trivial⟩ (by kernel_rfl) ?_
  refine .next ?_
  refine .seq ?_
  refine .seq ?_
  refine .region ?_
  refine .step rfl (.assign rfl rfl) ?_
  refine .nil ?_
  refine .next ?_
  refine .block ?_
  refine TC.loop (S := Nat × Int × Int) (fun x => x.1 ≤ w.length ∧ (w.take x.1).foldl (nextStep nm) ((latR l nm).1.ver, (latR l nm).1.key) = x.2) (fun x => w.length - x.1) (fun x => [(0, .d (slT Kn.dv 4 l)), (1, .d (slT Pe.dv 9 w)), (2, .d (.v (strV nm))), (10, .d (.v (.int .i64 x.2.1))), (11, .d (.v (.int .u64 x.2.2))), (12, .f (.v (.int .i64 x.1)))]) (fun x => [(1, .dead)]) ((0, (latR l nm).1.ver, (latR l nm).1.key)) ⟨Nat.zero_le _, rfl⟩ ⟨⟨rfl, rfl⟩, ⟨rfl, rfl⟩, ⟨rfl, rfl⟩, ⟨rfl, rfl⟩, ⟨rfl, rfl⟩, ⟨rfl, rfl⟩, trivial⟩ ⟨.inl rfl, trivial⟩ (fun x hI => ?_)
  obtain ⟨k, v, key⟩ := x
  obtain ⟨hk, hr⟩ := hI
  have hk : k ≤ w.length := hk
  have hr : (w.take k).foldl (nextStep nm) ((latR l nm).1.ver, (latR l nm).1.key) = (v, key) := hr
  refine .seq ?_
  refine .seq ?_
  refine .region ?_
  refine .step rfl (.move rfl rfl) ?_
  refine .step rfl (.move rfl rfl) ?_
  refine .step rfl (.len rfl rfl ⟨_, _, rfl⟩ is30) ?_
  refine .step rfl (.bin rfl rfl rfl rfl) ?_
  refine .nil ?_
  refine .next ?_
  refine .cond rfl (fun h1 => ?_) (fun h1 => ?_)
  · skip
    have hlt : k < w.length := by have q : (k : Int) < (w.length : Int) := of_decide_eq_true h1; omega
    refine .skip ?_
    refine .next ?_
    refine .seq ?_
    refine .block ?_
    refine .seq ?_
    refine .region ?_
    refine .step rfl (.move rfl rfl) ?_
    refine .step rfl (.move rfl rfl) ?_
    refine .step rfl (.idx (w[k]) rfl rfl rfl rfl et30 (fun _ => rfl) (Int.natCast_nonneg k) (get_nat hlt)) ?_
    refine .step rfl (.fielde rfl rfl rfl fo52_0) ?_
    refine .step rfl (.ldem rfl rfl rfl rfl rfl tk27) ?_
    refine .step rfl (.alloc 2 rfl rfl zc27 rfl) ?_
    refine .step rfl (.store rfl rfl rfl sz27 rfl rfl) ?_
    refine .nil ?_
    refine .next ?_
    refine .seq ?_
    by_cases hn : (w[k]).u.nm = nm
    · skip
      by_cases hv : v < (w[k]).u.ver
      · skip
        refine .region ?_
        refine .step rfl (.fieldp rfl rfl rfl rfl fo27_0) ?_
        refine .step rfl (.ldp rfl rfl rfl rfl rfl tk9) ?_
        refine .step rfl (.move rfl rfl) ?_
        refine .step rfl (.binv (.bool true) rfl rfl rfl rfl (congrArg Value.bool (decide_eq_true hn))) ?_
        refine .step rfl (.move rfl rfl) ?_
        refine .go 41 rfl rfl rfl rfl (.fieldp rfl rfl rfl rfl fo27_1) ?_
        refine .go 41 rfl rfl rfl rfl (.ldp rfl rfl rfl rfl rfl tk3) ?_
        refine .go 41 rfl rfl rfl rfl (.move rfl rfl) ?_
        refine .go 41 rfl rfl rfl rfl (.binv (.bool true) rfl rfl rfl rfl (congrArg Value.bool (decide_eq_true hv))) ?_
        refine .step rfl (.pick rfl rfl rfl) ?_
        refine .nil ?_
        refine .next ?_
        refine .cond rfl (fun h4 => ?_) (fun h4 => absurd h4 (by decide))
        refine .draw mixed [Ro.mk _ (Eff.mk (some (47, _)) []) [2], Ro.mk _ (Eff.mk (some (48, _)) []) [2], Ro.mk _ (Eff.mk (some (49, _)) []) [2], Ro.mk _ (Eff.mk (some (50, _)) []) [2], Ro.mk _ (Eff.mk (some (10, _)) []) [], Ro.mk _ (Eff.mk (some (11, _)) []) []] rfl ⟨(fun _ _ => .fieldp rfl rfl rfl rfl fo27_1), (fun _ _ => .ldp rfl rfl rfl rfl rfl tk3), (fun _ _ => .fieldp rfl rfl rfl rfl fo27_2), (fun _ _ => .ldp rfl rfl rfl rfl rfl tk23), (fun _ _ => .assign rfl rfl), (fun _ _ => .assign rfl rfl), trivial⟩ (by kernel_rfl) ?_
        refine TE.blk ?_
        refine .next ?_
        refine .region ?_
        refine .step rfl (.move rfl rfl) ?_
        refine .step rfl (.binv (.int .i64 ((k + 1 : Nat) : Int)) rfl rfl rfl rfl (congrArg _ (wrap_succ hlt hw))) ?_
        refine .step rfl (.assign rfl rfl) ?_
        refine .nil ?_
        exact TE.round id (fun _ _ e => e) ((k + 1, w[k].u.ver, w[k].u.key)) ⟨hlt, by rw [fold_snoc _ _ hlt, hr]; simp [nextStep, hn, hv]⟩ (by show _ - (k + 1) < _ - k; omega) ⟨⟨rfl, rfl⟩, ⟨rfl, rfl⟩, ⟨rfl, rfl⟩, ⟨rfl, rfl⟩, ⟨rfl, rfl⟩, ⟨rfl, rfl⟩, trivial⟩ ⟨.inl rfl, trivial⟩
      · skip
        refine .region ?_
        refine .step rfl (.fieldp rfl rfl rfl rfl fo27_0) ?_
        refine .step rfl (.ldp rfl rfl rfl rfl rfl tk9) ?_
        refine .step rfl (.move rfl rfl) ?_
        refine .step rfl (.binv (.bool true) rfl rfl rfl rfl (congrArg Value.bool (decide_eq_true hn))) ?_
        refine .step rfl (.move rfl rfl) ?_
        refine .go 41 rfl rfl rfl rfl (.fieldp rfl rfl rfl rfl fo27_1) ?_
        refine .go 41 rfl rfl rfl rfl (.ldp rfl rfl rfl rfl rfl tk3) ?_
        refine .go 41 rfl rfl rfl rfl (.move rfl rfl) ?_
        refine .go 41 rfl rfl rfl rfl (.binv (.bool false) rfl rfl rfl rfl (congrArg Value.bool (decide_eq_false hv))) ?_
        refine .step rfl (.pick rfl rfl rfl) ?_
        refine .nil ?_
        refine .next ?_
        refine .cond rfl (fun h5 => absurd h5 (by decide)) (fun h5 => ?_)
        refine .skip ?_
        refine TE.blk ?_
        refine .next ?_
        refine .region ?_
        refine .step rfl (.move rfl rfl) ?_
        refine .step rfl (.binv (.int .i64 ((k + 1 : Nat) : Int)) rfl rfl rfl rfl (congrArg _ (wrap_succ hlt hw))) ?_
        refine .step rfl (.assign rfl rfl) ?_
        refine .nil ?_
        exact TE.round id (fun _ _ e => e) ((k + 1, v, key)) ⟨hlt, by rw [fold_snoc _ _ hlt, hr]; simp [nextStep, hv]⟩ (by show _ - (k + 1) < _ - k; omega) ⟨⟨rfl, rfl⟩, ⟨rfl, rfl⟩, ⟨rfl, rfl⟩, ⟨rfl, rfl⟩, ⟨rfl, rfl⟩, ⟨rfl, rfl⟩, trivial⟩ ⟨.inl rfl, trivial⟩
    · skip
      refine .region ?_
      refine .step rfl (.fieldp rfl rfl rfl rfl fo27_0) ?_
      refine .step rfl (.ldp rfl rfl rfl rfl rfl tk9) ?_
      refine .step rfl (.move rfl rfl) ?_
      refine .step rfl (.binv (.bool false) rfl rfl rfl rfl (congrArg Value.bool (decide_eq_false hn))) ?_
      refine .step rfl (.move rfl rfl) ?_
      refine .no 41 rfl rfl rfl rfl rfl rfl rfl ?_
      refine .no 41 rfl rfl rfl rfl rfl rfl rfl ?_
      refine .no 41 rfl rfl rfl rfl rfl rfl rfl ?_
      refine .no 41 rfl rfl rfl rfl rfl rfl rfl ?_
      refine .step rfl (.pick rfl rfl rfl) ?_
      refine .nil ?_
      refine .next ?_
      refine .cond rfl (fun h6 => absurd h6 (by decide)) (fun h6 => ?_)
      refine .skip ?_
      refine TE.blk ?_
      refine .next ?_
      refine .region ?_
      refine .step rfl (.move rfl rfl) ?_
      refine .step rfl (.binv (.int .i64 ((k + 1 : Nat) : Int)) rfl rfl rfl rfl (congrArg _ (wrap_succ hlt hw))) ?_
      refine .step rfl (.assign rfl rfl) ?_
      refine .nil ?_
      exact TE.round id (fun _ _ e => e) ((k + 1, v, key)) ⟨hlt, by rw [fold_snoc _ _ hlt, hr]; simp [nextStep, hn]⟩ (by show _ - (k + 1) < _ - k; omega) ⟨⟨rfl, rfl⟩, ⟨rfl, rfl⟩, ⟨rfl, rfl⟩, ⟨rfl, rfl⟩, ⟨rfl, rfl⟩, ⟨rfl, rfl⟩, trivial⟩ ⟨.inl rfl, trivial⟩
  · skip
    have hlt : k = w.length := by have q : ¬ ((k : Int) < (w.length : Int)) := of_decide_eq_false h1; omega
    rw [hlt, List.take_length] at hr
    have e : nextR l w nm = (v, key) := hr
    refine .exit ?_
    refine TE.pass ?_
    refine TE.pass ?_
    refine TE.here ?_
    refine .next ?_
    refine .seq ?_
    refine .region ?_
    refine .step rfl (.move rfl rfl) ?_
    refine .step rfl (.bin rfl rfl rfl rfl) ?_
    refine .step rfl (.move rfl rfl) ?_
    refine .step rfl (.assign rfl rfl) ?_
    refine .step rfl (.assign rfl rfl) ?_
    refine .nil ?_
    refine .next ?_
    refine .ret ?_
    rw [e]
    exact TE.rettf rfl rfl rfl ⟨trivial, pl_v _, trivial⟩

set_option maxRecDepth 100000 in
set_option maxHeartbeats 1600000 in
theorem next_any (l : List Kn) (w : List Pe) (nm : List UInt8) (hl : l.length ≤ 140737488355328) (hw : w.length ≤ 140737488355328) : PF Try.prog 15 [slT Kn.dv 4 l, slT Pe.dv 9 w, .v (strV nm)] (.tp [.v (.int .i64 (i64w ((nextP l w nm).1 + 1))), .v (.int .u64 (nextP l w nm).2)]) := by
  refine PF.enter (fn := Try.f15) Try.func15 rfl Try.ntmps15 rfl (fun w0 => ?_)
  refine .seq ?_
  refine .region ?_
  refine .step rfl (.assign rfl rfl) ?_
  refine .step rfl (.assign rfl rfl) ?_
  refine .nil ?_
  refine .next ?_
  refine .seq ?_
  refine .region ?_
  refine .step rfl (.move rfl rfl) ?_
  refine .step rfl (.move rfl rfl) ?_
  refine .step rfl (.callf rfl cf28 rfl ⟨trivial, trivial, trivial⟩ (latest_any l nm hl)) ?_
  refine .step rfl (.move rfl rfl) ?_
  refine .step rfl (.extract rfl rfl rfl rfl) ?_
  refine .step rfl (.extract rfl rfl rfl rfl) ?_
  refine .step rfl (.alloc 1 rfl rfl zc50 rfl) ?_
  refine .step rfl (.store rfl rfl rfl sz50 rfl rfl) ?_
  refine .step rfl (.assign rfl rfl) ?_
  refine .nil ?_
  refine .next ?_
  refine .seq ?_
  refine .region ?_
  refine .step rfl (.fieldp rfl rfl rfl rfl fo50_0) ?_
  refine .step rfl (.ldpm rfl rfl rfl rfl rfl rfl tk48) ?_
  refine .step rfl (.alloc 2 rfl rfl zc48 rfl) ?_
  refine .step rfl (.store rfl rfl rfl sz48 rfl rfl) ?_
  refine .nil ?_
  refine .next ?_
  refine .seq ?_
  refine .seq ?_
  refine .region ?_
  refine .step rfl (.move rfl rfl) ?_
  refine .step rfl (.len rfl rfl ⟨_, _, rfl⟩ is30) ?_
  refine .step rfl (.move rfl rfl) ?_
  refine .nil ?_
  refine .next ?_
  refine .block ?_
  refine TC.loop (S := Nat × En) (fun x => x.1 ≤ w.length ∧ (w.take x.1).foldl (nextStep nm) ((latP l nm).1.ver, (latP l nm).1.key) = (x.2.ver, x.2.key)) (fun x => w.length - x.1) (fun x => [(0, .d (slT Kn.dv 4 l)), (1, .d (slT Pe.dv 9 w)), (2, .d (.v (strV nm))), (10, .ptr 2 0), (21, .d (slT Pe.dv 9 w)), (22, .f (.v (.int .i64 w.length))), (23, .f (.v (.int .i64 x.1)))]) (fun x => [(1, .dead), (2, .box 48 x.2.dv)]) ((0, ⟨(latP l nm).1.nm, (latP l nm).1.ver, (latP l nm).1.key⟩)) ⟨Nat.zero_le _, rfl⟩ ⟨⟨rfl, rfl⟩, ⟨rfl, rfl⟩, ⟨rfl, rfl⟩, ⟨rfl, rfl⟩, ⟨rfl, rfl⟩, ⟨rfl, rfl⟩, ⟨rfl, rfl⟩, trivial⟩ ⟨.inl rfl, .inr rfl, trivial⟩ (fun x hI => ?_)
  obtain ⟨k, e⟩ := x
  obtain ⟨hk, hr⟩ := hI
  have hk : k ≤ w.length := hk
  have hr : (w.take k).foldl (nextStep nm) ((latP l nm).1.ver, (latP l nm).1.key) = (e.ver, e.key) := hr
  refine .seq ?_
  refine .region ?_
  refine .step rfl (.bin rfl rfl rfl rfl) ?_
  refine .nil ?_
  refine .next ?_
  refine .seq ?_
  refine .cond rfl (fun h1 => ?_) (fun h1 => ?_)
  · skip
    have hlt : k < w.length := by have q : (k : Int) < (w.length : Int) := of_decide_eq_true h1; omega
    refine .skip ?_
    refine .next ?_
    refine .seq ?_
    refine .block ?_
    refine .seq ?_
    refine .region ?_
    refine .step rfl (.idx (w[k]) rfl rfl rfl rfl et30 (fun _ => rfl) (Int.natCast_nonneg k) (get_nat hlt)) ?_
    refine .step rfl (.ldem rfl rfl rfl rfl rfl tk52) ?_
    refine .step rfl (.alloc 3 rfl rfl zc52 rfl) ?_
    refine .step rfl (.store rfl rfl rfl sz52 rfl rfl) ?_
    refine .nil ?_
    refine .next ?_
    refine .seq ?_
    by_cases hn : (w[k]).u.nm = nm
    · skip
      by_cases hv : e.ver < (w[k]).u.ver
      · skip
        refine .region ?_
        refine .step rfl (.fieldp rfl rfl rfl rfl fo52_0) ?_
        refine .step rfl (.fieldp rfl rfl rfl rfl fo27_0) ?_
        refine .step rfl (.ldp rfl rfl rfl rfl rfl tk9) ?_
        refine .step rfl (.move rfl rfl) ?_
        refine .step rfl (.binv (.bool true) rfl rfl rfl rfl (congrArg Value.bool (decide_eq_true hn))) ?_
        refine .step rfl (.move rfl rfl) ?_
        refine .go 32 rfl rfl rfl rfl (.fieldp rfl rfl rfl rfl fo52_0) ?_
        refine .go 32 rfl rfl rfl rfl (.fieldp rfl rfl rfl rfl fo27_1) ?_
        refine .go 32 rfl rfl rfl rfl (.ldp rfl rfl rfl rfl rfl tk3) ?_
        refine .go 32 rfl rfl rfl rfl (.fieldp rfl rfl rfl rfl fo48_1) ?_
        refine .go 32 rfl rfl rfl rfl (.ldp rfl rfl rfl rfl rfl tk3) ?_
        refine .go 32 rfl rfl rfl rfl (.binv (.bool true) rfl rfl rfl rfl (congrArg Value.bool (decide_eq_true hv))) ?_
        refine .step rfl (.pick rfl rfl rfl) ?_
        refine .nil ?_
        refine .next ?_
        refine .cond rfl (fun h4 => ?_) (fun h4 => absurd h4 (by decide))
        refine .region ?_
        refine .step rfl (.fieldp rfl rfl rfl rfl fo52_0) ?_
        refine .step rfl (.ldpm rfl rfl rfl rfl rfl rfl tk27) ?_
        refine .step rfl (.callf rfl cf29 rfl ⟨trivial, trivial⟩ (pf_plain (Y := .ag (En.dv ⟨w[k].u.nm, w[k].u.ver, w[k].u.key⟩)) rfl rfl (fun w' => entry_any w[k].u w'))) ?_
        refine .step rfl (.store rfl rfl rfl sz48 rfl rfl) ?_
        refine .nil ?_
        refine TE.blk ?_
        refine .next ?_
        refine .region ?_
        refine .step rfl (.binv (.int .i64 ((k + 1 : Nat) : Int)) rfl rfl rfl rfl (congrArg _ (wrap_succ hlt hw))) ?_
        refine .step rfl (.move rfl rfl) ?_
        refine .nil ?_
        exact TE.round id (fun _ _ e => e) ((k + 1, ⟨w[k].u.nm, w[k].u.ver, w[k].u.key⟩)) ⟨hlt, by rw [fold_snoc _ _ hlt, hr]; simp [nextStep, hn, hv]⟩ (by show _ - (k + 1) < _ - k; omega) ⟨⟨rfl, rfl⟩, ⟨rfl, rfl⟩, ⟨rfl, rfl⟩, ⟨rfl, rfl⟩, ⟨rfl, rfl⟩, ⟨rfl, rfl⟩, ⟨rfl, rfl⟩, trivial⟩ ⟨.inl rfl, .inr rfl, trivial⟩
      · skip
        refine .region ?_
        refine .step rfl (.fieldp rfl rfl rfl rfl fo52_0) ?_
        refine .step rfl (.fieldp rfl rfl rfl rfl fo27_0) ?_
        refine .step rfl (.ldp rfl rfl rfl rfl rfl tk9) ?_
        refine .step rfl (.move rfl rfl) ?_
        refine .step rfl (.binv (.bool true) rfl rfl rfl rfl (congrArg Value.bool (decide_eq_true hn))) ?_
        refine .step rfl (.move rfl rfl) ?_
        refine .go 32 rfl rfl rfl rfl (.fieldp rfl rfl rfl rfl fo52_0) ?_
        refine .go 32 rfl rfl rfl rfl (.fieldp rfl rfl rfl rfl fo27_1) ?_
        refine .go 32 rfl rfl rfl rfl (.ldp rfl rfl rfl rfl rfl tk3) ?_
        refine .go 32 rfl rfl rfl rfl (.fieldp rfl rfl rfl rfl fo48_1) ?_
        refine .go 32 rfl rfl rfl rfl (.ldp rfl rfl rfl rfl rfl tk3) ?_
        refine .go 32 rfl rfl rfl rfl (.binv (.bool false) rfl rfl rfl rfl (congrArg Value.bool (decide_eq_false hv))) ?_
        refine .step rfl (.pick rfl rfl rfl) ?_
        refine .nil ?_
        refine .next ?_
        refine .cond rfl (fun h5 => absurd h5 (by decide)) (fun h5 => ?_)
        refine .skip ?_
        refine TE.blk ?_
        refine .next ?_
        refine .region ?_
        refine .step rfl (.binv (.int .i64 ((k + 1 : Nat) : Int)) rfl rfl rfl rfl (congrArg _ (wrap_succ hlt hw))) ?_
        refine .step rfl (.move rfl rfl) ?_
        refine .nil ?_
        exact TE.round id (fun _ _ e => e) ((k + 1, e)) ⟨hlt, by rw [fold_snoc _ _ hlt, hr]; simp [nextStep, hv]⟩ (by show _ - (k + 1) < _ - k; omega) ⟨⟨rfl, rfl⟩, ⟨rfl, rfl⟩, ⟨rfl, rfl⟩, ⟨rfl, rfl⟩, ⟨rfl, rfl⟩, ⟨rfl, rfl⟩, ⟨rfl, rfl⟩, trivial⟩ ⟨.inl rfl, .inr rfl, trivial⟩
    · skip
      refine .region ?_
      refine .step rfl (.fieldp rfl rfl rfl rfl fo52_0) ?_
      refine .step rfl (.fieldp rfl rfl rfl rfl fo27_0) ?_
      refine .step rfl (.ldp rfl rfl rfl rfl rfl tk9) ?_
      refine .step rfl (.move rfl rfl) ?_
      refine .step rfl (.binv (.bool false) rfl rfl rfl rfl (congrArg Value.bool (decide_eq_false hn))) ?_
      refine .step rfl (.move rfl rfl) ?_
      refine .no 32 rfl rfl rfl rfl rfl rfl rfl ?_
      refine .no 32 rfl rfl rfl rfl rfl rfl rfl ?_
      refine .no 32 rfl rfl rfl rfl rfl rfl rfl ?_
      refine .no 32 rfl rfl rfl rfl rfl rfl rfl ?_
      refine .no 32 rfl rfl rfl rfl rfl rfl rfl ?_
      refine .no 32 rfl rfl rfl rfl rfl rfl rfl ?_
      refine .step rfl (.pick rfl rfl rfl) ?_
      refine .nil ?_
      refine .next ?_
      refine .cond rfl (fun h6 => absurd h6 (by decide)) (fun h6 => ?_)
      refine .skip ?_
      refine TE.blk ?_
      refine .next ?_
      refine .region ?_
      refine .step rfl (.binv (.int .i64 ((k + 1 : Nat) : Int)) rfl rfl rfl rfl (congrArg _ (wrap_succ hlt hw))) ?_
      refine .step rfl (.move rfl rfl) ?_
      refine .nil ?_
      exact TE.round id (fun _ _ e => e) ((k + 1, e)) ⟨hlt, by rw [fold_snoc _ _ hlt, hr]; simp [nextStep, hn]⟩ (by show _ - (k + 1) < _ - k; omega) ⟨⟨rfl, rfl⟩, ⟨rfl, rfl⟩, ⟨rfl, rfl⟩, ⟨rfl, rfl⟩, ⟨rfl, rfl⟩, ⟨rfl, rfl⟩, ⟨rfl, rfl⟩, trivial⟩ ⟨.inl rfl, .inr rfl, trivial⟩
  · skip
    have hlt : k = w.length := by have q : ¬ ((k : Int) < (w.length : Int)) := of_decide_eq_false h1; omega
    rw [hlt, List.take_length] at hr
    have he : nextP l w nm = (e.ver, e.key) := hr
    refine .exit ?_
    refine TE.pass ?_
    refine TE.pass ?_
    refine TE.here ?_
    refine .next ?_
    refine .seq ?_
    refine .draw mixed [Ro.mk _ (Eff.mk (some (44, _)) []) [2], Ro.mk _ (Eff.mk (some (45, _)) []) [2], Ro.mk _ (Eff.mk (some (46, _)) []) [], Ro.mk _ (Eff.mk (some (47, _)) []) [2], Ro.mk _ (Eff.mk (some (48, _)) []) [2], Ro.mk _ (Eff.mk (some (6, _)) []) [], Ro.mk _ (Eff.mk (some (7, _)) []) []] rfl ⟨(fun _ _ => .fieldp rfl rfl rfl rfl fo48_1), (fun _ _ => .ldp rfl rfl rfl rfl rfl tk3), (fun _ _ => .bin rfl rfl rfl rfl), (fun _ _ => .fieldp rfl rfl rfl rfl fo48_2), (fun _ _ => .ldp rfl rfl rfl rfl rfl tk23), (fun _ _ => .assign rfl rfl), (fun _ _ => .assign rfl rfl), trivial⟩ (by kernel_rfl) ?_
    refine .next ?_
    refine .ret ?_
    rw [he]
    exact TE.rettf rfl rfl rfl ⟨trivial, pl_v _, trivial⟩

end Go.Proofs.Ytkkgjmfnlabbdaa
