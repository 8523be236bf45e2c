/-
  Lists of bytes turned round; slices.Backward.
-/
import Derived.Test.YtejhgijjegnmnaaZVp
import Derived.Test.YtejhgijjegnmnaaZFa
namespace Go.Proofs.Ytejhgijjegnmnaa
set_option linter.unusedVariables false
set_option linter.unusedSimpArgs false
open Go.RowKit Pl
theorem et48 : elt Try.prog 48 = some (44, 1) := by kernel_rfl
theorem is48 : isSl Try.prog 48 = some true := by kernel_rfl
theorem sz44 : szt Try.prog 44 = some 1 := by kernel_rfl
theorem tk44 : tyk Try.prog 44 = some none := by kernel_rfl
set_option maxRecDepth 100000 in
set_option maxHeartbeats 1600000 in
theorem revL_pm (xs : List (List UInt8)) (hx : xs.length ≤ 1048576) : PM Try.prog 77 [.ow 0 xs.length 1] (.mrow 0 44 1 ((xs).flatMap ldv)) (.mrow 0 44 1 ((xs.reverse).flatMap ldv)) (.d (.tp [])) := by
  refine PM.enter (fn := Try.f77) Try.func77 rfl Try.ntmps77 rfl rfl rfl (fun w0 K0 ob => ?_)
  refine .seq ?_
  refine .region ?_
  refine .step rfl (.move rfl rfl) ?_
  refine .step rfl (.leno rfl rfl rfl is48) ?_
  refine .step rfl (.bin rfl rfl rfl rfl) ?_
  refine .step rfl (.assign rfl rfl) ?_
  refine .step rfl (.assign rfl rfl) ?_
  refine .nil ?_
  refine TE.setv 2 (.int .i64 ((0 : Nat) : Int)) rfl rfl ?_
  refine TE.setv 3 (.int .i64 ((xs.length : Int) - 1 - ((0 : Nat) : Int))) rfl (congrArg _ (by rw [IntKind.wrap_i64]; omega)) ?_
  refine TE.obj 0 (.mrow 0 44 1 ((rvG xs 0).flatMap ldv)) rfl (by rw [rvG_zero]) ?_
  refine .next ?_
  refine .block ?_
  refine TC.loop (S := Nat) (fun i => i ≤ xs.length) (fun i => xs.length - i) (fun i => [(0, .ow 0 xs.length 1), (2, .d (.v (.int .i64 ((i : Nat) : Int)))), (3, .d (.v (.int .i64 ((xs.length : Int) - 1 - (i : Int)))))]) (fun i => [(0, .mrow 0 44 1 ((rvG xs i).flatMap ldv))]) (0) (Nat.zero_le _) ⟨⟨rfl, rfl⟩, ⟨rfl, rfl⟩, ⟨rfl, rfl⟩, trivial⟩ ⟨.inr rfl, trivial⟩ (fun i hI => ?_)
  refine .seq ?_
  refine .seq ?_
  refine .region ?_
  refine .step rfl (.move rfl rfl) ?_
  refine .step rfl (.move rfl rfl) ?_
  refine .step rfl (.bin rfl rfl rfl rfl) ?_
  refine .nil ?_
  refine .next ?_
  refine .cond rfl (fun h1 => ?_) (fun h1 => ?_)
  ·skip
   have hij : i + 1 + i < xs.length := by have q := of_decide_eq_true h1; (try dsimp only at q); omega
   have hyl := rvG_len xs i
   have hil : i < (rvG xs i).length := by omega
   have hjl : xs.length - 1 - i < (rvG xs i).length := by omega
   have hstep := rvG_step hij hjl hil
   generalize rvG xs i = ys at hyl hil hjl hstep ⊢
   refine TC.setv 3 (.int .i64 ((xs.length - 1 - i : Nat) : Int)) rfl (congrArg _ (by (try dsimp only); omega)) ?_
   refine .skip ?_
   refine .next ?_
   refine .seq ?_
   refine .block ?_
   refine .draw mixed [Ro.mk _ (Eff.mk (some (14, _)) []) [], Ro.mk _ (Eff.mk (some (15, _)) []) [], Ro.mk _ (Eff.mk (some (16, _)) []) [], Ro.mk _ (Eff.mk (some (17, _)) []) [], Ro.mk _ (Eff.mk (some (18, _)) []) [], Ro.mk _ (Eff.mk (some (19, _)) []) [], Ro.mk _ (Eff.mk (some (20, _)) []) [0], Ro.mk _ (Eff.mk (some (21, _)) []) [0], Ro.mk _ (Eff.mk (some (22, _)) []) [], Ro.mk _ (Eff.mk (some (23, _)) []) [], Ro.mk _ (Eff.mk (some (24, _)) []) [0], Ro.mk _ (Eff.mk (some (25, _)) []) [0], Ro.mk _ (Eff.mk (some (26, _)) []) [0], Ro.mk _ (Eff.mk none [(0, _)]) [0], Ro.mk _ (Eff.mk (some (27, _)) []) [0], Ro.mk _ (Eff.mk none [(0, _)]) [0]] rfl ⟨(fun _ _ => .move rfl rfl), (fun _ _ => .move rfl rfl), (fun _ _ => .move rfl rfl), (fun _ _ => .move rfl rfl), (fun _ _ => .move rfl rfl), (fun _ _ => .move rfl rfl), (fun _ _ => .idxo rfl rfl rfl rfl rfl et48 (Int.natCast_nonneg _) (by omega)), (fun _ _ => .ldp rfl rfl rfl rfl (ld_one (j := xs.length - 1 - i) hjl) tk44), (fun _ _ => .move rfl rfl), (fun _ _ => .move rfl rfl), (fun _ _ => .idxo rfl rfl rfl rfl rfl et48 (Int.natCast_nonneg _) (by omega)), (fun _ _ => .ldp rfl rfl rfl rfl (ld_one (j := i) hil) tk44), (fun _ _ => .idxo rfl rfl rfl rfl rfl et48 (Int.natCast_nonneg _) (by omega)), (fun _ _ => .storerm (xs := ys) (enc := ldv) (ys[xs.length - 1 - i]) rfl rfl rfl rfl rfl rfl (fun _ => rfl) sz44 rfl (hil)), (fun _ _ => .idxo rfl rfl rfl rfl rfl et48 (Int.natCast_nonneg _) (by omega)), (fun _ _ => .storerm (xs := ys.set i ys[xs.length - 1 - i]) (enc := ldv) (ys[i]) rfl rfl rfl rfl rfl rfl (fun _ => rfl) sz44 rfl (by rw [List.length_set]; exact hjl)), trivial⟩ (by kernel_rfl) ?_
   refine TE.blk ?_
   refine .next ?_
   refine .region ?_
   refine .step rfl (.move rfl rfl) ?_
   refine .step rfl (.binv (.int .i64 ((i + 1 : Nat) : Int)) rfl rfl rfl rfl (congrArg _ (by (try dsimp only); rw [IntKind.wrap_i64]; omega))) ?_
   refine .step rfl (.move rfl rfl) ?_
   refine .step rfl (.binv (.int .i64 ((xs.length : Int) - 1 - ((i + 1 : Nat) : Int))) rfl rfl rfl rfl (congrArg _ (by (try dsimp only); rw [IntKind.wrap_i64]; omega))) ?_
   refine .step rfl (.assign rfl rfl) ?_
   refine .step rfl (.assign rfl rfl) ?_
   refine .nil ?_
   refine TE.obj 0 (.mrow 0 44 1 ((rvG xs (i + 1)).flatMap ldv)) rfl (by rw [hstep]) ?_
   refine TE.setv 2 (.int .i64 ((i + 1 : Nat) : Int)) rfl (congrArg _ (by first | rfl | (dsimp only; first | done | rfl | omega))) ?_
   refine TE.setv 3 (.int .i64 ((xs.length : Int) - 1 - ((i + 1 : Nat) : Int))) rfl rfl ?_
   exact TE.round id (fun _ _ e => e) (i + 1) (by omega) (by omega) ⟨⟨rfl, rfl⟩, ⟨rfl, rfl⟩, ⟨rfl, rfl⟩, trivial⟩ ⟨.inr rfl, trivial⟩
  ·skip
   have hij : ¬ i + 1 + i < xs.length := by have q := of_decide_eq_false h1; (try dsimp only at q); omega
   rw [rvG_end hij]
   refine .exit ?_
   refine TE.pass ?_
   refine TE.pass ?_
   refine TE.here ?_
   exact TE.retm0 0 rfl rfl rfl
set_option maxRecDepth 100000 in
set_option maxHeartbeats 1600000 in
theorem backward_pc (xs : List H) : PC Try.prog 76 [slT hdv 32 xs] (.fn (.func 91) [] [.el [slT hdv 32 xs]]) := by
  refine PC.enter (fn := Try.f76) Try.func76 rfl Try.ntmps76 rfl (fun w0 K0 => ?_)
  refine .seq ?_
  refine .region ?_
  refine .step rfl (.box 1 rfl rfl rfl rfl) ?_
  refine .step rfl (.assign rfl rfl) ?_
  refine .nil ?_
  refine TE.frzb 1 rfl rfl rfl rfl ?_
  refine .next ?_
  refine .seq ?_
  refine .region ?_
  refine .step rfl (.mkfn rfl rfl) ?_
  refine .step rfl (.assign rfl rfl) ?_
  refine .nil ?_
  refine .next ?_
  refine .ret ?_
  exact TE.retc rfl rfl rfl
end Go.Proofs.Ytejhgijjegnmnaa

