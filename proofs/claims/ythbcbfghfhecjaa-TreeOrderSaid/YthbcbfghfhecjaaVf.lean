/-
  Turned round; clipped.
-/
import Derived.Test.YthbcbfghfhecjaaVe
namespace Go.Proofs.Ythbcbfghfhecjaa
set_option linter.unusedVariables false
set_option linter.unusedSimpArgs false
open Go.RowKit Pl


set_option maxRecDepth 100000 in
set_option maxHeartbeats 1600000 in
theorem rev_pm (xs : List It) (hx : xs.length ≤ 1048576) : PM Try.prog 30 [.ow 0 xs.length 64] (.mrow 0 35 64 ((xs).flatMap It.dv)) (.mrow 0 35 64 ((rvI xs).flatMap It.dv)) (.d (.tp [])) := by
  refine PM.enter (fn := Try.f30) Try.func30 rfl Try.ntmps30 rfl rfl rfl (fun w0 K0 ob => ?_)
  refine .seq ?_
  refine .region ?_
  refine .step rfl (.move rfl rfl) ?_
  refine .step rfl (.leno rfl rfl rfl is25) ?_
  refine .step rfl (.bin rfl rfl rfl rfl) ?_
  refine .step rfl (.assign rfl rfl) ?_
  refine .step rfl (.assign rfl rfl) ?_
  refine .nil ?_
  refine TE.setv 2 (.int .i64 ((0 : Nat) : Int)) rfl rfl ?_
  refine TE.setv 3 (.int .i64 ((xs.length : Int) - 1 - ((0 : Nat) : Int))) rfl (congrArg _ (by rw [IntKind.wrap_i64]; omega)) ?_
  refine .next ?_
  refine .block ?_
  refine TC.loop (S := Nat × List It) (fun s => s.2.length = xs.length ∧ s.1 ≤ xs.length ∧ rvN (xs.length - s.1) s.2 s.1 = rvI xs) (fun s => xs.length - s.1) (fun s => [(0, .ow 0 xs.length 64), (2, .d (.v (.int .i64 ((s.1 : Nat) : Int)))), (3, .d (.v (.int .i64 ((xs.length : Int) - 1 - (s.1 : Int)))))]) (fun s => [(0, .mrow 0 35 64 ((s.2).flatMap It.dv))]) ((0, xs)) ⟨rfl, Nat.zero_le _, rfl⟩ ⟨⟨rfl, rfl⟩, ⟨rfl, rfl⟩, ⟨rfl, rfl⟩, trivial⟩ ⟨.inr rfl, trivial⟩ (fun s hI => ?_)
  obtain ⟨i, ys⟩ := s
  obtain ⟨i1, i2, i3⟩ := hI
  have i1 : ys.length = xs.length := i1
  have i2 : i ≤ xs.length := i2
  have i3 : rvN (xs.length - i) ys i = rvI xs := i3
  refine .seq ?_
  refine .seq ?_
  refine .region ?_
  refine .step rfl (.move rfl rfl) ?_
  refine .step rfl (.move rfl rfl) ?_
  refine .step rfl (.bin rfl rfl rfl rfl) ?_
  refine .nil ?_
  refine .next ?_
  refine .cond rfl (fun h1 => ?_) (fun h1 => ?_)
  · skip
    have hij : i + 1 + i < xs.length := by have q := of_decide_eq_true h1; (try dsimp only at q); omega
    have hil : i < ys.length := by omega
    have hjl : xs.length - 1 - i < ys.length := by omega
    refine TC.setv 3 (.int .i64 ((xs.length - 1 - i : Nat) : Int)) rfl (congrArg _ (by (try dsimp only); omega)) ?_
    refine .skip ?_
    refine .next ?_
    refine .seq ?_
    refine .block ?_
    refine .draw mixed [Ro.mk _ (Eff.mk (some (14, _)) []) [], Ro.mk _ (Eff.mk (some (15, _)) []) [], Ro.mk _ (Eff.mk (some (16, _)) []) [], Ro.mk _ (Eff.mk (some (17, _)) []) [], Ro.mk _ (Eff.mk (some (18, _)) []) [], Ro.mk _ (Eff.mk (some (19, _)) []) [], Ro.mk _ (Eff.mk (some (20, _)) []) [0], Ro.mk _ (Eff.mk (some (21, _)) []) [0], Ro.mk _ (Eff.mk (some (22, _)) []) [], Ro.mk _ (Eff.mk (some (23, _)) []) [], Ro.mk _ (Eff.mk (some (24, _)) []) [0], Ro.mk _ (Eff.mk (some (25, _)) []) [0], Ro.mk _ (Eff.mk (some (26, _)) []) [0], Ro.mk _ (Eff.mk none [(0, _)]) [0], Ro.mk _ (Eff.mk (some (27, _)) []) [0], Ro.mk _ (Eff.mk none [(0, _)]) [0]] rfl ⟨(fun _ _ => .move rfl rfl), (fun _ _ => .move rfl rfl), (fun _ _ => .move rfl rfl), (fun _ _ => .move rfl rfl), (fun _ _ => .move rfl rfl), (fun _ _ => .move rfl rfl), (fun _ _ => .idxo rfl rfl rfl rfl rfl et25 (Int.natCast_nonneg _) (by omega)), (fun _ _ => .ldpm rfl rfl rfl rfl (flat_at it_len ys (hjl)) (it_len _) tk35), (fun _ _ => .move rfl rfl), (fun _ _ => .move rfl rfl), (fun _ _ => .idxo rfl rfl rfl rfl rfl et25 (Int.natCast_nonneg _) (by omega)), (fun _ _ => .ldpm rfl rfl rfl rfl (flat_at it_len ys (hil)) (it_len _) tk35), (fun _ _ => .idxo rfl rfl rfl rfl rfl et25 (Int.natCast_nonneg _) (by omega)), (fun _ _ => .storerm (xs := ys) (enc := It.dv) (ys[xs.length - 1 - i]) rfl rfl rfl rfl rfl rfl (fun _ => rfl) sz35 rfl (hil)), (fun _ _ => .idxo rfl rfl rfl rfl rfl et25 (Int.natCast_nonneg _) (by omega)), (fun _ _ => .storerm (xs := ys.set i ys[xs.length - 1 - i]) (enc := It.dv) (ys[i]) rfl rfl rfl rfl rfl rfl (fun _ => rfl) sz35 rfl (by rw [List.length_set]; exact hjl)), trivial⟩ (by kernel_rfl) ?_
    refine TE.blk ?_
    refine .next ?_
    refine .region ?_
    refine .step rfl (.move rfl rfl) ?_
    refine .step rfl (.binv (.int .i64 ((i + 1 : Nat) : Int)) rfl rfl rfl rfl (congrArg _ (by (try dsimp only); rw [IntKind.wrap_i64]; omega))) ?_
    refine .step rfl (.move rfl rfl) ?_
    refine .step rfl (.binv (.int .i64 ((xs.length : Int) - 1 - ((i + 1 : Nat) : Int))) rfl rfl rfl rfl (congrArg _ (by (try dsimp only); rw [IntKind.wrap_i64]; omega))) ?_
    refine .step rfl (.assign rfl rfl) ?_
    refine .step rfl (.assign rfl rfl) ?_
    refine .nil ?_
    refine TE.obj 0 (.mrow 0 35 64 ((swI ys i (xs.length - 1 - i)).flatMap It.dv)) rfl (by unfold swI; rw [at_eq hil, at_eq hjl]) ?_
    refine TE.setv 2 (.int .i64 ((i + 1 : Nat) : Int)) rfl rfl ?_
    refine TE.setv 3 (.int .i64 ((xs.length : Int) - 1 - ((i + 1 : Nat) : Int))) rfl rfl ?_
    exact TE.round id (fun _ _ e => e) ((i + 1, swI ys i (xs.length - 1 - i))) ⟨by show (swI ys i (xs.length - 1 - i)).length = _; rw [swI_len]; exact i1, by show i + 1 ≤ xs.length; omega, by show rvN (xs.length - (i + 1)) (swI ys i (xs.length - 1 - i)) (i + 1) = _; rw [← i3, rvN_step (f := xs.length - i) (by omega) (by omega), i1]; rfl⟩ (by show xs.length - (i + 1) < xs.length - i; omega) ⟨⟨rfl, rfl⟩, ⟨rfl, rfl⟩, ⟨rfl, rfl⟩, trivial⟩ ⟨.inr rfl, trivial⟩
  · skip
    have hij : ¬ i + 1 + i < xs.length := by have q := of_decide_eq_false h1; (try dsimp only at q); omega
    have e : ys = rvI xs := by rw [← i3, rvN_end (by omega)]
    subst e
    refine .exit ?_
    refine TE.pass ?_
    refine TE.pass ?_
    refine TE.here ?_
    exact TE.retm0 0 rfl rfl rfl

set_option maxRecDepth 100000 in
set_option maxHeartbeats 1600000 in
theorem clip_pc (xs : List It) : PC Try.prog 33 [slT It.dv 64 xs] (slT It.dv 64 xs) := by
  refine PC.enter (fn := Try.f33) Try.func33 rfl Try.ntmps33 rfl (fun w0 K0 => ?_)
  refine .seq ?_
  refine .region ?_
  refine .step rfl (.assign rfl rfl) ?_
  refine .nil ?_
  refine .next ?_
  refine .seq ?_
  refine .region ?_
  refine .step rfl (.move rfl rfl) ?_
  refine .step rfl (.move rfl rfl) ?_
  refine .step rfl (.len rfl rfl ⟨_, _, rfl⟩ is25) ?_
  refine .step rfl (.move rfl rfl) ?_
  refine .step rfl (.len rfl rfl ⟨_, _, rfl⟩ is25) ?_
  refine .step rfl (.slice3 rfl rfl rfl et25 rfl rfl) ?_
  refine .step rfl (.assign rfl rfl) ?_
  refine .nil ?_
  refine .next ?_
  refine .ret ?_
  exact TE.retc rfl rfl rfl

end Go.Proofs.Ythbcbfghfhecjaa
