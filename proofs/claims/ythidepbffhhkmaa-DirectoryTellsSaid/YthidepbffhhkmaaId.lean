/-
  The next version, the references' find.
-/
import Derived.Test.YthidepbffhhkmaaIc
namespace Go.Proofs.Ythidepbffhhkmaa
set_option linter.unusedVariables false
set_option linter.unusedSimpArgs false
open Go.RowKit Pl


set_option maxRecDepth 100000 in
set_option maxHeartbeats 1600000 in
theorem rlatest_any (l : List Kn) (nm : List UInt8) (hl : l.length ≤ 140737488355328) : PF Try.prog 12 [slT Kn.dv 4 l, .v (strV nm)] (.tp [.ag (latR l nm).1.dv, .v (.bool (latR l nm).2)]) := by
  refine PF.enter (fn := Try.f12) Try.func12 rfl Try.ntmps12 rfl (fun w0 => ?_)
  refine .seq ?_
  refine .region ?_
  refine .step rfl (.alloc 1 rfl rfl zc32 rfl) ?_
  refine .step rfl (.assign rfl rfl) ?_
  refine .nil ?_
  refine .next ?_
  refine .seq ?_
  refine .region ?_
  refine .step rfl (.alloc 2 rfl rfl zc32 rfl) ?_
  refine .nil ?_
  refine .next ?_
  refine .seq ?_
  refine .region ?_
  refine .step rfl (.assign rfl rfl) ?_
  refine .nil ?_
  refine .next ?_
  refine .seq ?_
  refine .seq ?_
  refine .region ?_
  refine .step rfl (.assign rfl rfl) ?_
  refine .nil ?_
  refine .next ?_
  refine .block ?_
  refine TC.loop (S := Nat × Kn × Bool) (fun x => x.1 ≤ l.length ∧ latR (l.take x.1) nm = x.2) (fun x => l.length - x.1) (fun x => [(0, .d (slT Kn.dv 4 l)), (1, .d (.v (strV nm))), (4, .ptr 1 0), (6, .ptr 2 0), (7, .f (.v (.bool x.2.2))), (8, .f (.v (.int .i64 x.1)))]) (fun x => [(1, .box 32 zeroK.dv), (2, .box 32 x.2.1.dv)]) ((0, zeroK, false)) ⟨Nat.zero_le _, rfl⟩ ⟨⟨rfl, rfl⟩, ⟨rfl, rfl⟩, ⟨rfl, rfl⟩, ⟨rfl, rfl⟩, ⟨rfl, rfl⟩, ⟨rfl, rfl⟩, trivial⟩ ⟨.inr rfl, .inr rfl, trivial⟩ (fun x hI => ?_)
  obtain ⟨k, q, ok⟩ := x
  obtain ⟨hk, hr⟩ := hI
  refine .seq ?_
  refine .seq ?_
  refine .region ?_
  refine .step rfl (.move rfl rfl) ?_
  refine .step rfl (.move rfl rfl) ?_
  refine .step rfl (.len rfl rfl ⟨_, _, rfl⟩ is24) ?_
  refine .step rfl (.bin rfl rfl rfl rfl) ?_
  refine .nil ?_
  refine .next ?_
  refine .cond rfl (fun h1 => ?_) (fun h1 => ?_)
  ·skip
   have hlt : k < l.length := by have q : (k : Int) < (l.length : Int) := of_decide_eq_true h1; omega
   refine .skip ?_
   refine .next ?_
   refine .seq ?_
   refine .block ?_
   refine .seq ?_
   by_cases hn : (l[k]).nm = nm
   ·skip
    cases ok with
    | true =>
     by_cases hv : q.ver < (l[k]).ver
     ·skip
      refine .draw mixed [Ro.mk _ (Eff.mk (some (15, _)) []) [], Ro.mk _ (Eff.mk (some (16, _)) []) [], Ro.mk _ (Eff.mk (some (17, _)) []) [], Ro.mk _ (Eff.mk (some (18, _)) []) [], Ro.mk _ (Eff.mk (some (19, _)) []) [], Ro.mk _ (Eff.mk (some (20, _)) []) [], Ro.mk _ (Eff.mk (some (21, _)) []) [], Ro.mk _ (Eff.mk (some (22, _)) []) [], Ro.mk _ (Eff.mk (some (23, _)) []) [], Ro.mk _ (Eff.mk (some (24, _)) []) [], Ro.mk _ (Eff.mk (some (25, _)) []) [], Ro.mk _ (Eff.mk (some (26, _)) []) [], Ro.mk _ (Eff.mk (some (27, _)) []) [], Ro.mk _ (Eff.mk (some (28, _)) []) [], Ro.mk _ (Eff.mk (some (29, _)) []) [], Ro.mk _ (Eff.mk (some (30, _)) []) [], Ro.mk _ (Eff.mk (some (31, _)) []) [], Ro.mk _ (Eff.mk (some (32, _)) []) [], Ro.mk _ (Eff.mk (some (33, _)) []) [2], Ro.mk _ (Eff.mk (some (34, _)) []) [2], Ro.mk _ (Eff.mk (some (35, _)) []) [2], Ro.mk _ (Eff.mk (some (36, _)) []) [], Ro.mk _ (Eff.mk (some (37, _)) []) [], Ro.mk _ (Eff.mk (some (38, _)) []) []] rfl ⟨(fun _ _ => .move rfl rfl), (fun _ _ => .move rfl rfl), (fun _ _ => .idx (l[k]) rfl rfl rfl rfl et24 (fun _ => rfl) (Int.natCast_nonneg k) (get_nat hlt)), (fun _ _ => .fielde rfl rfl rfl fo32_0), (fun _ _ => .fielde rfl rfl rfl fo30_0), (fun _ _ => .lde rfl rfl rfl rfl tk9), (fun _ _ => .move rfl rfl), (fun _ _ => .binv (.bool true) rfl rfl rfl rfl (congrArg Value.bool (decide_eq_true hn))), (fun _ _ => .move rfl rfl), (.inr ⟨23, _, rfl, rfl, rfl, rfl, fun _ _ => .move rfl rfl⟩), (.inr ⟨23, _, rfl, rfl, rfl, rfl, fun _ _ => .un rfl rfl rfl⟩), (.inr ⟨23, _, rfl, rfl, rfl, rfl, fun _ _ => .move rfl rfl⟩), (.inr ⟨26, _, rfl, rfl, rfl, rfl, fun _ _ => .move rfl rfl⟩), (.inr ⟨26, _, rfl, rfl, rfl, rfl, fun _ _ => .move rfl rfl⟩), (.inr ⟨26, _, rfl, rfl, rfl, rfl, fun _ _ => .idx (l[k]) rfl rfl rfl rfl et24 (fun _ => rfl) (Int.natCast_nonneg k) (get_nat hlt)⟩), (.inr ⟨26, _, rfl, rfl, rfl, rfl, fun _ _ => .fielde rfl rfl rfl fo32_0⟩), (.inr ⟨26, _, rfl, rfl, rfl, rfl, fun _ _ => .fielde rfl rfl rfl fo30_1⟩), (.inr ⟨26, _, rfl, rfl, rfl, rfl, fun _ _ => .lde rfl rfl rfl rfl tk3⟩), (.inr ⟨26, _, rfl, rfl, rfl, rfl, fun _ _ => .fieldp rfl rfl rfl rfl fo32_0⟩), (.inr ⟨26, _, rfl, rfl, rfl, rfl, fun _ _ => .fieldp rfl rfl rfl rfl fo30_1⟩), (.inr ⟨26, _, rfl, rfl, rfl, rfl, fun _ _ => .ldp rfl rfl rfl rfl rfl tk3⟩), (.inr ⟨26, _, rfl, rfl, rfl, rfl, fun _ _ => .binv (.bool true) rfl rfl rfl rfl (congrArg Value.bool (decide_eq_true hv))⟩), (.inr ⟨23, _, rfl, rfl, rfl, rfl, fun _ _ => .pick rfl rfl rfl⟩), (fun _ _ => .pick rfl rfl rfl), trivial⟩ (by kernel_rfl) ?_
      refine .next ?_
      refine .cond rfl (fun h5 => ?_) (fun h5 => absurd h5 (by decide))
      refine .region ?_
      refine .step rfl (.move rfl rfl) ?_
      refine .step rfl (.move rfl rfl) ?_
      refine .step rfl (.idx (l[k]) rfl rfl rfl rfl et24 (fun _ => rfl) (Int.natCast_nonneg k) (get_nat hlt)) ?_
      refine .step rfl (.ldem rfl rfl rfl rfl rfl tk32) ?_
      refine .step rfl (.store rfl rfl rfl sz32 rfl rfl) ?_
      refine .step rfl (.assign rfl rfl) ?_
      refine .nil ?_
      refine TE.blk ?_
      refine .next ?_
      refine .region ?_
      refine .step rfl (.move rfl rfl) ?_
      refine .step rfl (.binv (.int .i64 ((k + 1 : Nat) : Int)) rfl rfl rfl rfl (congrArg _ (wrap_succ hlt hl))) ?_
      refine .step rfl (.assign rfl rfl) ?_
      refine .nil ?_
      exact TE.round id (fun _ _ e => e) ((k + 1, l[k], true)) ⟨hlt, by rw [latR_snoc hlt, hr]; simp [latStep, hn, hv]⟩ (by show _ - (k + 1) < _ - k; omega) ⟨⟨rfl, rfl⟩, ⟨rfl, rfl⟩, ⟨rfl, rfl⟩, ⟨rfl, rfl⟩, ⟨rfl, rfl⟩, ⟨rfl, rfl⟩, trivial⟩ ⟨.inr rfl, .inr rfl, trivial⟩
     ·skip
      refine .draw mixed [Ro.mk _ (Eff.mk (some (15, _)) []) [], Ro.mk _ (Eff.mk (some (16, _)) []) [], Ro.mk _ (Eff.mk (some (17, _)) []) [], Ro.mk _ (Eff.mk (some (18, _)) []) [], Ro.mk _ (Eff.mk (some (19, _)) []) [], Ro.mk _ (Eff.mk (some (20, _)) []) [], Ro.mk _ (Eff.mk (some (21, _)) []) [], Ro.mk _ (Eff.mk (some (22, _)) []) [], Ro.mk _ (Eff.mk (some (23, _)) []) [], Ro.mk _ (Eff.mk (some (24, _)) []) [], Ro.mk _ (Eff.mk (some (25, _)) []) [], Ro.mk _ (Eff.mk (some (26, _)) []) [], Ro.mk _ (Eff.mk (some (27, _)) []) [], Ro.mk _ (Eff.mk (some (28, _)) []) [], Ro.mk _ (Eff.mk (some (29, _)) []) [], Ro.mk _ (Eff.mk (some (30, _)) []) [], Ro.mk _ (Eff.mk (some (31, _)) []) [], Ro.mk _ (Eff.mk (some (32, _)) []) [], Ro.mk _ (Eff.mk (some (33, _)) []) [2], Ro.mk _ (Eff.mk (some (34, _)) []) [2], Ro.mk _ (Eff.mk (some (35, _)) []) [2], Ro.mk _ (Eff.mk (some (36, _)) []) [], Ro.mk _ (Eff.mk (some (37, _)) []) [], Ro.mk _ (Eff.mk (some (38, _)) []) []] rfl ⟨(fun _ _ => .move rfl rfl), (fun _ _ => .move rfl rfl), (fun _ _ => .idx (l[k]) rfl rfl rfl rfl et24 (fun _ => rfl) (Int.natCast_nonneg k) (get_nat hlt)), (fun _ _ => .fielde rfl rfl rfl fo32_0), (fun _ _ => .fielde rfl rfl rfl fo30_0), (fun _ _ => .lde rfl rfl rfl rfl tk9), (fun _ _ => .move rfl rfl), (fun _ _ => .binv (.bool true) rfl rfl rfl rfl (congrArg Value.bool (decide_eq_true hn))), (fun _ _ => .move rfl rfl), (.inr ⟨23, _, rfl, rfl, rfl, rfl, fun _ _ => .move rfl rfl⟩), (.inr ⟨23, _, rfl, rfl, rfl, rfl, fun _ _ => .un rfl rfl rfl⟩), (.inr ⟨23, _, rfl, rfl, rfl, rfl, fun _ _ => .move rfl rfl⟩), (.inr ⟨26, _, rfl, rfl, rfl, rfl, fun _ _ => .move rfl rfl⟩), (.inr ⟨26, _, rfl, rfl, rfl, rfl, fun _ _ => .move rfl rfl⟩), (.inr ⟨26, _, rfl, rfl, rfl, rfl, fun _ _ => .idx (l[k]) rfl rfl rfl rfl et24 (fun _ => rfl) (Int.natCast_nonneg k) (get_nat hlt)⟩), (.inr ⟨26, _, rfl, rfl, rfl, rfl, fun _ _ => .fielde rfl rfl rfl fo32_0⟩), (.inr ⟨26, _, rfl, rfl, rfl, rfl, fun _ _ => .fielde rfl rfl rfl fo30_1⟩), (.inr ⟨26, _, rfl, rfl, rfl, rfl, fun _ _ => .lde rfl rfl rfl rfl tk3⟩), (.inr ⟨26, _, rfl, rfl, rfl, rfl, fun _ _ => .fieldp rfl rfl rfl rfl fo32_0⟩), (.inr ⟨26, _, rfl, rfl, rfl, rfl, fun _ _ => .fieldp rfl rfl rfl rfl fo30_1⟩), (.inr ⟨26, _, rfl, rfl, rfl, rfl, fun _ _ => .ldp rfl rfl rfl rfl rfl tk3⟩), (.inr ⟨26, _, rfl, rfl, rfl, rfl, fun _ _ => .binv (.bool false) rfl rfl rfl rfl (congrArg Value.bool (decide_eq_false hv))⟩), (.inr ⟨23, _, rfl, rfl, rfl, rfl, fun _ _ => .pick rfl rfl rfl⟩), (fun _ _ => .pick rfl rfl rfl), trivial⟩ (by kernel_rfl) ?_
      refine .next ?_
      refine .cond rfl (fun h6 => absurd h6 (by decide)) (fun h6 => ?_)
      refine .skip ?_
      refine TE.blk ?_
      refine .next ?_
      refine .region ?_
      refine .step rfl (.move rfl rfl) ?_
      refine .step rfl (.binv (.int .i64 ((k + 1 : Nat) : Int)) rfl rfl rfl rfl (congrArg _ (wrap_succ hlt hl))) ?_
      refine .step rfl (.assign rfl rfl) ?_
      refine .nil ?_
      exact TE.round id (fun _ _ e => e) ((k + 1, q, true)) ⟨hlt, by rw [latR_snoc hlt, hr]; simp [latStep, hn, hv]⟩ (by show _ - (k + 1) < _ - k; omega) ⟨⟨rfl, rfl⟩, ⟨rfl, rfl⟩, ⟨rfl, rfl⟩, ⟨rfl, rfl⟩, ⟨rfl, rfl⟩, ⟨rfl, rfl⟩, trivial⟩ ⟨.inr rfl, .inr rfl, trivial⟩
    | false =>
     refine .draw mixed [Ro.mk _ (Eff.mk (some (15, _)) []) [], Ro.mk _ (Eff.mk (some (16, _)) []) [], Ro.mk _ (Eff.mk (some (17, _)) []) [], Ro.mk _ (Eff.mk (some (18, _)) []) [], Ro.mk _ (Eff.mk (some (19, _)) []) [], Ro.mk _ (Eff.mk (some (20, _)) []) [], Ro.mk _ (Eff.mk (some (21, _)) []) [], Ro.mk _ (Eff.mk (some (22, _)) []) [], Ro.mk _ (Eff.mk (some (23, _)) []) [], Ro.mk _ (Eff.mk (some (24, _)) []) [], Ro.mk _ (Eff.mk (some (25, _)) []) [], Ro.mk _ (Eff.mk (some (26, _)) []) [], Ro.mk _ (Eff.mk (some (27, _)) []) [], Ro.mk _ (Eff.mk (some (28, _)) []) [], Ro.mk _ (Eff.mk (some (29, _)) []) [], Ro.mk _ (Eff.mk (some (30, _)) []) [], Ro.mk _ (Eff.mk (some (31, _)) []) [], Ro.mk _ (Eff.mk (some (32, _)) []) [], Ro.mk _ (Eff.mk (some (33, _)) []) [], Ro.mk _ (Eff.mk (some (34, _)) []) [], Ro.mk _ (Eff.mk (some (35, _)) []) [], Ro.mk _ (Eff.mk (some (36, _)) []) [], Ro.mk _ (Eff.mk (some (37, _)) []) [], Ro.mk _ (Eff.mk (some (38, _)) []) []] rfl ⟨(fun _ _ => .move rfl rfl), (fun _ _ => .move rfl rfl), (fun _ _ => .idx (l[k]) rfl rfl rfl rfl et24 (fun _ => rfl) (Int.natCast_nonneg k) (get_nat hlt)), (fun _ _ => .fielde rfl rfl rfl fo32_0), (fun _ _ => .fielde rfl rfl rfl fo30_0), (fun _ _ => .lde rfl rfl rfl rfl tk9), (fun _ _ => .move rfl rfl), (fun _ _ => .binv (.bool true) rfl rfl rfl rfl (congrArg Value.bool (decide_eq_true hn))), (fun _ _ => .move rfl rfl), (.inr ⟨23, _, rfl, rfl, rfl, rfl, fun _ _ => .move rfl rfl⟩), (.inr ⟨23, _, rfl, rfl, rfl, rfl, fun _ _ => .un rfl rfl rfl⟩), (.inr ⟨23, _, rfl, rfl, rfl, rfl, fun _ _ => .move rfl rfl⟩), (.inr ⟨26, _, rfl, rfl, rfl, rfl, 27, rfl, rfl, rfl⟩), (.inr ⟨26, _, rfl, rfl, rfl, rfl, 28, rfl, rfl, rfl⟩), (.inr ⟨26, _, rfl, rfl, rfl, rfl, 29, rfl, rfl, rfl⟩), (.inr ⟨26, _, rfl, rfl, rfl, rfl, 30, rfl, rfl, rfl⟩), (.inr ⟨26, _, rfl, rfl, rfl, rfl, 31, rfl, rfl, rfl⟩), (.inr ⟨26, _, rfl, rfl, rfl, rfl, 32, rfl, rfl, rfl⟩), (.inr ⟨26, _, rfl, rfl, rfl, rfl, 33, rfl, rfl, rfl⟩), (.inr ⟨26, _, rfl, rfl, rfl, rfl, 34, rfl, rfl, rfl⟩), (.inr ⟨26, _, rfl, rfl, rfl, rfl, 35, rfl, rfl, rfl⟩), (.inr ⟨26, _, rfl, rfl, rfl, rfl, 36, rfl, rfl, rfl⟩), (.inr ⟨23, _, rfl, rfl, rfl, rfl, fun _ _ => .pick rfl rfl rfl⟩), (fun _ _ => .pick rfl rfl rfl), trivial⟩ (by kernel_rfl) ?_
     refine .next ?_
     refine .cond rfl (fun h7 => ?_) (fun h7 => absurd h7 (by decide))
     refine .region ?_
     refine .step rfl (.move rfl rfl) ?_
     refine .step rfl (.move rfl rfl) ?_
     refine .step rfl (.idx (l[k]) rfl rfl rfl rfl et24 (fun _ => rfl) (Int.natCast_nonneg k) (get_nat hlt)) ?_
     refine .step rfl (.ldem rfl rfl rfl rfl rfl tk32) ?_
     refine .step rfl (.store rfl rfl rfl sz32 rfl rfl) ?_
     refine .step rfl (.assign rfl rfl) ?_
     refine .nil ?_
     refine TE.blk ?_
     refine .next ?_
     refine .region ?_
     refine .step rfl (.move rfl rfl) ?_
     refine .step rfl (.binv (.int .i64 ((k + 1 : Nat) : Int)) rfl rfl rfl rfl (congrArg _ (wrap_succ hlt hl))) ?_
     refine .step rfl (.assign rfl rfl) ?_
     refine .nil ?_
     exact TE.round id (fun _ _ e => e) ((k + 1, l[k], true)) ⟨hlt, by rw [latR_snoc hlt, hr]; simp [latStep, hn]⟩ (by show _ - (k + 1) < _ - k; omega) ⟨⟨rfl, rfl⟩, ⟨rfl, rfl⟩, ⟨rfl, rfl⟩, ⟨rfl, rfl⟩, ⟨rfl, rfl⟩, ⟨rfl, rfl⟩, trivial⟩ ⟨.inr rfl, .inr rfl, trivial⟩
   ·skip
    refine .draw mixed [Ro.mk _ (Eff.mk (some (15, _)) []) [], Ro.mk _ (Eff.mk (some (16, _)) []) [], Ro.mk _ (Eff.mk (some (17, _)) []) [], Ro.mk _ (Eff.mk (some (18, _)) []) [], Ro.mk _ (Eff.mk (some (19, _)) []) [], Ro.mk _ (Eff.mk (some (20, _)) []) [], Ro.mk _ (Eff.mk (some (21, _)) []) [], Ro.mk _ (Eff.mk (some (22, _)) []) [], Ro.mk _ (Eff.mk (some (23, _)) []) [], Ro.mk _ (Eff.mk (some (24, _)) []) [], Ro.mk _ (Eff.mk (some (25, _)) []) [], Ro.mk _ (Eff.mk (some (26, _)) []) [], Ro.mk _ (Eff.mk (some (27, _)) []) [], Ro.mk _ (Eff.mk (some (28, _)) []) [], Ro.mk _ (Eff.mk (some (29, _)) []) [], Ro.mk _ (Eff.mk (some (30, _)) []) [], Ro.mk _ (Eff.mk (some (31, _)) []) [], Ro.mk _ (Eff.mk (some (32, _)) []) [], Ro.mk _ (Eff.mk (some (33, _)) []) [], Ro.mk _ (Eff.mk (some (34, _)) []) [], Ro.mk _ (Eff.mk (some (35, _)) []) [], Ro.mk _ (Eff.mk (some (36, _)) []) [], Ro.mk _ (Eff.mk (some (37, _)) []) [], Ro.mk _ (Eff.mk (some (38, _)) []) []] rfl ⟨(fun _ _ => .move rfl rfl), (fun _ _ => .move rfl rfl), (fun _ _ => .idx (l[k]) rfl rfl rfl rfl et24 (fun _ => rfl) (Int.natCast_nonneg k) (get_nat hlt)), (fun _ _ => .fielde rfl rfl rfl fo32_0), (fun _ _ => .fielde rfl rfl rfl fo30_0), (fun _ _ => .lde rfl rfl rfl rfl tk9), (fun _ _ => .move rfl rfl), (fun _ _ => .binv (.bool false) rfl rfl rfl rfl (congrArg Value.bool (decide_eq_false hn))), (fun _ _ => .move rfl rfl), (.inr ⟨23, _, rfl, rfl, rfl, rfl, 24, rfl, rfl, rfl⟩), (.inr ⟨23, _, rfl, rfl, rfl, rfl, 25, rfl, rfl, rfl⟩), (.inr ⟨23, _, rfl, rfl, rfl, rfl, 26, rfl, rfl, rfl⟩), (.inl ⟨26, _, rfl, rfl, rfl, rfl, rfl, rfl⟩), (.inl ⟨26, _, rfl, rfl, rfl, rfl, rfl, rfl⟩), (.inl ⟨26, _, rfl, rfl, rfl, rfl, rfl, rfl⟩), (.inl ⟨26, _, rfl, rfl, rfl, rfl, rfl, rfl⟩), (.inl ⟨26, _, rfl, rfl, rfl, rfl, rfl, rfl⟩), (.inl ⟨26, _, rfl, rfl, rfl, rfl, rfl, rfl⟩), (.inl ⟨26, _, rfl, rfl, rfl, rfl, rfl, rfl⟩), (.inl ⟨26, _, rfl, rfl, rfl, rfl, rfl, rfl⟩), (.inl ⟨26, _, rfl, rfl, rfl, rfl, rfl, rfl⟩), (.inl ⟨26, _, rfl, rfl, rfl, rfl, rfl, rfl⟩), (.inr ⟨23, _, rfl, rfl, rfl, rfl, 37, rfl, rfl, rfl⟩), (fun _ _ => .pick rfl rfl rfl), trivial⟩ (by kernel_rfl) ?_
    refine .next ?_
    refine .cond rfl (fun h8 => absurd h8 (by decide)) (fun h8 => ?_)
    refine .skip ?_
    refine TE.blk ?_
    refine .next ?_
    refine .region ?_
    refine .step rfl (.move rfl rfl) ?_
    refine .step rfl (.binv (.int .i64 ((k + 1 : Nat) : Int)) rfl rfl rfl rfl (congrArg _ (wrap_succ hlt hl))) ?_
    refine .step rfl (.assign rfl rfl) ?_
    refine .nil ?_
    exact TE.round id (fun _ _ e => e) ((k + 1, q, ok)) ⟨hlt, by rw [latR_snoc hlt, hr]; simp [latStep, hn]⟩ (by show _ - (k + 1) < _ - k; omega) ⟨⟨rfl, rfl⟩, ⟨rfl, rfl⟩, ⟨rfl, rfl⟩, ⟨rfl, rfl⟩, ⟨rfl, rfl⟩, ⟨rfl, rfl⟩, trivial⟩ ⟨.inr rfl, .inr rfl, trivial⟩
  ·skip
   have hlt : k = l.length := by have h0 : ¬ ((k : Int) < (l.length : Int)) := of_decide_eq_false h1; have h1 : k ≤ l.length := hk; omega
   subst hlt
   have hr' : latR l nm = (q, ok) := by have h1 : latR (l.take l.length) nm = (q, ok) := hr; rwa [List.take_length] at h1
   refine .exit ?_
   refine TE.pass ?_
   refine TE.pass ?_
   refine TE.here ?_
   refine .next ?_
   refine .seq ?_
   refine .region ?_
   refine .step rfl (.ldpm rfl rfl rfl rfl rfl rfl tk32) ?_
   refine .step rfl (.move rfl rfl) ?_
   refine .step rfl (.store rfl rfl rfl sz32 rfl rfl) ?_
   refine .step rfl (.assign rfl rfl) ?_
   refine .nil ?_
   refine .next ?_
   refine .ret ?_
   rw [hr']
   exact TE.rettf rfl rfl rfl ⟨pl_ag (pl_kn (_)), trivial, trivial⟩

set_option maxRecDepth 100000 in
set_option maxHeartbeats 1600000 in
theorem rfind_any (l : List Kn) (nm : List UInt8) (v : Int) (hl : l.length ≤ 140737488355328) : PF Try.prog 23 [slT Kn.dv 4 l, .v (strV nm), .v (.int .i64 v)] (.tp [.ag (findR l nm v).1.dv, .v (.bool (findR l nm v).2)]) := by
  refine PF.enter (fn := Try.f23) Try.func23 rfl Try.ntmps23 rfl (fun w0 => ?_)
  refine .seq ?_
  refine .region ?_
  refine .step rfl (.alloc 1 rfl rfl zc32 rfl) ?_
  refine .step rfl (.assign rfl rfl) ?_
  refine .nil ?_
  refine .next ?_
  refine .seq ?_
  refine .seq ?_
  refine .region ?_
  refine .step rfl (.assign rfl rfl) ?_
  refine .nil ?_
  refine .next ?_
  refine .block ?_
  refine TC.loop (S := Nat) (fun k => k ≤ l.length ∧ ∀ j (hj : j < l.length), j < k → ¬ (l[j].nm = nm ∧ l[j].ver = v)) (fun k => l.length - k) (fun k => [(0, .d (slT Kn.dv 4 l)), (1, .d (.v (strV nm))), (2, .d (.v (.int .i64 v))), (6, .ptr 1 0), (8, .f (.v (.int .i64 k)))]) (fun k => [(1, .box 32 zeroK.dv)]) (0) ⟨Nat.zero_le _, fun j _ h => absurd h (Nat.not_lt_zero j)⟩ ⟨⟨rfl, rfl⟩, ⟨rfl, rfl⟩, ⟨rfl, rfl⟩, ⟨rfl, rfl⟩, ⟨rfl, rfl⟩, trivial⟩ ⟨.inr rfl, trivial⟩ (fun k hI => ?_)
  obtain ⟨hk, hr⟩ := hI
  refine .seq ?_
  refine .seq ?_
  refine .region ?_
  refine .step rfl (.move rfl rfl) ?_
  refine .step rfl (.move rfl rfl) ?_
  refine .step rfl (.len rfl rfl ⟨_, _, rfl⟩ is24) ?_
  refine .step rfl (.bin rfl rfl rfl rfl) ?_
  refine .nil ?_
  refine .next ?_
  refine .cond rfl (fun h1 => ?_) (fun h1 => ?_)
  ·skip
   have hlt : k < l.length := by have := of_decide_eq_true h1; omega
   refine .skip ?_
   refine .next ?_
   refine .seq ?_
   refine .block ?_
   refine .seq ?_
   by_cases hn : (l[k]).nm = nm
   ·skip
    refine .region ?_
    refine .step rfl (.move rfl rfl) ?_
    refine .step rfl (.move rfl rfl) ?_
    refine .step rfl (.idx (l[k]) rfl rfl rfl rfl et24 (fun _ => rfl) (Int.natCast_nonneg k) (get_nat hlt)) ?_
    refine .step rfl (.fielde rfl rfl rfl fo32_0) ?_
    refine .step rfl (.fielde rfl rfl rfl fo30_0) ?_
    refine .step rfl (.lde rfl rfl rfl rfl tk9) ?_
    refine .step rfl (.move rfl rfl) ?_
    refine .step rfl (.binv (.bool true) rfl rfl rfl rfl (congrArg Value.bool (decide_eq_true hn))) ?_
    refine .step rfl (.move rfl rfl) ?_
    refine .go 23 rfl rfl rfl rfl (.move rfl rfl) ?_
    refine .go 23 rfl rfl rfl rfl (.move rfl rfl) ?_
    refine .go 23 rfl rfl rfl rfl (.idx (l[k]) rfl rfl rfl rfl et24 (fun _ => rfl) (Int.natCast_nonneg k) (get_nat hlt)) ?_
    refine .go 23 rfl rfl rfl rfl (.fielde rfl rfl rfl fo32_0) ?_
    refine .go 23 rfl rfl rfl rfl (.fielde rfl rfl rfl fo30_1) ?_
    refine .go 23 rfl rfl rfl rfl (.lde rfl rfl rfl rfl tk3) ?_
    refine .go 23 rfl rfl rfl rfl (.move rfl rfl) ?_
    refine .go 23 rfl rfl rfl rfl (.bin rfl rfl rfl rfl) ?_
    refine .step rfl (.pick rfl rfl rfl) ?_
    refine .nil ?_
    refine .next ?_
    refine .cond rfl (fun h3 => ?_) (fun h3 => ?_)
    ·skip
     have hv : l[k].ver = v := of_decide_eq_true h3
     have e : findR l nm v = (l[k], true) := findR_at hlt hr ⟨hn, hv⟩
     refine .seq ?_
     refine .region ?_
     refine .step rfl (.move rfl rfl) ?_
     refine .step rfl (.move rfl rfl) ?_
     refine .step rfl (.idx (l[k]) rfl rfl rfl rfl et24 (fun _ => rfl) (Int.natCast_nonneg k) (get_nat hlt)) ?_
     refine .step rfl (.ldem rfl rfl rfl rfl rfl tk32) ?_
     refine .step rfl (.store rfl rfl rfl sz32 rfl rfl) ?_
     refine .step rfl (.assign rfl rfl) ?_
     refine .nil ?_
     refine .next ?_
     refine .ret ?_
     rw [e]
     exact TE.rettf rfl rfl rfl ⟨pl_ag (pl_kn (l[k])), trivial, trivial⟩
    ·skip
     have hno : ¬ (l[k].nm = nm ∧ l[k].ver = v) := fun q => of_decide_eq_false h3 q.2
     refine .skip ?_
     refine TE.blk ?_
     refine .next ?_
     refine .region ?_
     refine .step rfl (.move rfl rfl) ?_
     refine .step rfl (.binv (.int .i64 ((k + 1 : Nat) : Int)) rfl rfl rfl rfl (congrArg _ (wrap_succ hlt hl))) ?_
     refine .step rfl (.assign rfl rfl) ?_
     refine .nil ?_
     exact TE.round id (fun _ _ e => e) (k + 1) ⟨hlt, fun j hj hjk => (Nat.lt_or_eq_of_le (Nat.le_of_lt_succ hjk)).elim (hr j hj) (fun e => by subst e; exact hno)⟩ (by omega) ⟨⟨rfl, rfl⟩, ⟨rfl, rfl⟩, ⟨rfl, rfl⟩, ⟨rfl, rfl⟩, ⟨rfl, rfl⟩, trivial⟩ ⟨.inr rfl, trivial⟩
   ·skip
    have hno : ¬ (l[k].nm = nm ∧ l[k].ver = v) := fun q => hn q.1
    refine .region ?_
    refine .step rfl (.move rfl rfl) ?_
    refine .step rfl (.move rfl rfl) ?_
    refine .step rfl (.idx (l[k]) rfl rfl rfl rfl et24 (fun _ => rfl) (Int.natCast_nonneg k) (get_nat hlt)) ?_
    refine .step rfl (.fielde rfl rfl rfl fo32_0) ?_
    refine .step rfl (.fielde rfl rfl rfl fo30_0) ?_
    refine .step rfl (.lde rfl rfl rfl rfl tk9) ?_
    refine .step rfl (.move rfl rfl) ?_
    refine .step rfl (.binv (.bool false) rfl rfl rfl rfl (congrArg Value.bool (decide_eq_false hn))) ?_
    refine .step rfl (.move rfl rfl) ?_
    refine .no 23 rfl rfl rfl rfl rfl rfl rfl ?_
    refine .no 23 rfl rfl rfl rfl rfl rfl rfl ?_
    refine .no 23 rfl rfl rfl rfl rfl rfl rfl ?_
    refine .no 23 rfl rfl rfl rfl rfl rfl rfl ?_
    refine .no 23 rfl rfl rfl rfl rfl rfl rfl ?_
    refine .no 23 rfl rfl rfl rfl rfl rfl rfl ?_
    refine .no 23 rfl rfl rfl rfl rfl rfl rfl ?_
    refine .no 23 rfl rfl rfl rfl rfl rfl rfl ?_
    refine .step rfl (.pick rfl rfl rfl) ?_
    refine .nil ?_
    refine .next ?_
    refine .cond rfl (fun h4 => absurd h4 (by decide)) (fun h4 => ?_)
    refine .skip ?_
    refine TE.blk ?_
    refine .next ?_
    refine .region ?_
    refine .step rfl (.move rfl rfl) ?_
    refine .step rfl (.binv (.int .i64 ((k + 1 : Nat) : Int)) rfl rfl rfl rfl (congrArg _ (wrap_succ hlt hl))) ?_
    refine .step rfl (.assign rfl rfl) ?_
    refine .nil ?_
    exact TE.round id (fun _ _ e => e) (k + 1) ⟨hlt, fun j hj hjk => (Nat.lt_or_eq_of_le (Nat.le_of_lt_succ hjk)).elim (hr j hj) (fun e => by subst e; exact hno)⟩ (by omega) ⟨⟨rfl, rfl⟩, ⟨rfl, rfl⟩, ⟨rfl, rfl⟩, ⟨rfl, rfl⟩, ⟨rfl, rfl⟩, trivial⟩ ⟨.inr rfl, trivial⟩
  ·skip
   have hlt : k = l.length := by have h0 := of_decide_eq_false h1; have h1 : k ≤ l.length := hk; omega
   have e : findR l nm v = (zeroK, false) := findR_none fun j hj => hr j hj (by omega)
   refine .exit ?_
   refine TE.pass ?_
   refine TE.pass ?_
   refine TE.here ?_
   refine .next ?_
   refine .seq ?_
   refine .region ?_
   refine .step rfl (.build rfl rfl sp32 rfl rfl) ?_
   refine .step rfl (.store rfl rfl rfl sz32 rfl rfl) ?_
   refine .step rfl (.assign rfl rfl) ?_
   refine .nil ?_
   refine .next ?_
   refine .ret ?_
   rw [e]
   exact TE.rettf rfl rfl rfl ⟨pl_ag (pl_kn (zeroK)), trivial, trivial⟩

end Go.Proofs.Ythidepbffhhkmaa
