/-
  The library's insertion sort.
-/
import Derived.Test.YthbcbfghfhecjaaVa
namespace Go.Proofs.Ythbcbfghfhecjaa
set_option linter.unusedVariables false
set_option linter.unusedSimpArgs false
open Go.RowKit Pl

theorem cf32 : cfn Try.prog 32 = true := by kernel_rfl
theorem et25 : elt Try.prog 25 = some (35, 64) := by kernel_rfl
theorem sz35 : szt Try.prog 35 = some 64 := by kernel_rfl
theorem tk35 : tyk Try.prog 35 = some (some 64) := by kernel_rfl

set_option maxRecDepth 100000 in
set_option maxHeartbeats 1600000 in
theorem ins_pm (xs : List It) (a b : Nat) (hb : b ≤ xs.length) (hab : a ≤ b) (hx : xs.length ≤ 140737488355328) : PM Try.prog 52 [.ow 0 xs.length 64, .d (.v (.int .i64 a)), .d (.v (.int .i64 b)), .d (.fn (.func 32) [] [])] (.mrow 0 35 64 ((xs).flatMap It.dv)) (.mrow 0 35 64 ((insS xs a b).flatMap It.dv)) (.d (.tp [])) := by
  refine PM.enter (fn := Try.f52) Try.func52 rfl Try.ntmps52 rfl rfl rfl (fun w0 K0 ob => ?_)
  refine .seq ?_
  refine .region ?_
  refine .step rfl (.move rfl rfl) ?_
  refine .step rfl (.binv (.int .i64 ((a + 1 : Nat) : Int)) rfl rfl rfl rfl (congrArg _ (by rw [IntKind.wrap_i64]; omega))) ?_
  refine .step rfl (.assign rfl rfl) ?_
  refine .nil ?_
  refine .next ?_
  refine .block ?_
  refine TC.loop (S := Nat × List It) (fun s => s.2.length = xs.length ∧ a + 1 ≤ s.1 ∧ insN (b - s.1) s.2 a s.1 = insS xs a b) (fun s => b - s.1) (fun s => [(0, .ow 0 xs.length 64), (1, .d (.v (.int .i64 a))), (2, .d (.v (.int .i64 b))), (3, .d (.fn (.func 32) [] [])), (8, .f (.v (.int .i64 s.1)))]) (fun s => [(0, .mrow 0 35 64 ((s.2).flatMap It.dv))]) ((a + 1, xs)) ⟨rfl, Nat.le_refl _, rfl⟩ ⟨⟨rfl, rfl⟩, ⟨rfl, rfl⟩, ⟨rfl, rfl⟩, ⟨rfl, rfl⟩, ⟨rfl, rfl⟩, trivial⟩ ⟨.inr rfl, trivial⟩ (fun s hI => ?_)
  obtain ⟨i, zs⟩ := s
  obtain ⟨i1, i2, i3⟩ := hI
  have i1 : zs.length = xs.length := i1
  have i2 : a + 1 ≤ i := i2
  have i3 : insN (b - i) zs a i = insS xs a b := i3
  refine .seq ?_
  refine .seq ?_
  refine .region ?_
  refine .step rfl (.move rfl rfl) ?_
  refine .step rfl (.move rfl rfl) ?_
  refine .step rfl (.bin rfl rfl rfl rfl) ?_
  refine .nil ?_
  refine .next ?_
  refine .cond rfl (fun h1 => ?_) (fun h1 => ?_)
  · skip
    have hib : i < b := by have q : (i : Int) < (b : Int) := of_decide_eq_true h1; omega
    refine .skip ?_
    refine .next ?_
    refine .seq ?_
    refine .block ?_
    refine .seq ?_
    refine .region ?_
    refine .step rfl (.move rfl rfl) ?_
    refine .step rfl (.assign rfl rfl) ?_
    refine .nil ?_
    refine .next ?_
    refine .block ?_
    refine TC.loop (S := Nat × List It) (fun s => s.2.length = xs.length ∧ s.1 ≤ i ∧ insDown s.1 s.2 a = insDown i zs a) (fun s => s.1) (fun s => [(0, .ow 0 xs.length 64), (1, .d (.v (.int .i64 a))), (2, .d (.v (.int .i64 b))), (3, .d (.fn (.func 32) [] [])), (8, .f (.v (.int .i64 i))), (9, .f (.v (.int .i64 s.1)))]) (fun s => [(0, .mrow 0 35 64 ((s.2).flatMap It.dv))]) ((i, zs)) ⟨i1, Nat.le_refl _, rfl⟩ ⟨⟨rfl, rfl⟩, ⟨rfl, rfl⟩, ⟨rfl, rfl⟩, ⟨rfl, rfl⟩, ⟨rfl, rfl⟩, ⟨rfl, rfl⟩, trivial⟩ ⟨.inr rfl, trivial⟩ (fun s hI => ?_)
    obtain ⟨j, ys⟩ := s
    obtain ⟨j1, j2, j3⟩ := hI
    have j1 : ys.length = xs.length := j1
    have j2 : j ≤ i := j2
    have j3 : insDown j ys a = insDown i zs a := j3
    refine .seq ?_
    refine .seq ?_
    by_cases hja : a < j
    · skip
      have hjl : j < ys.length := by omega
      have hjp : j - 1 < ys.length := by omega
      by_cases hlt : ltI ys[j] ys[j - 1] = true
      · skip
        have hlt2 : ltI (at_ ys j) (at_ ys (j - 1)) = true := by rw [at_eq hjl, at_eq hjp]; exact hlt
        refine .draw mixed [Ro.mk _ (Eff.mk (some (18, _)) []) [], Ro.mk _ (Eff.mk (some (19, _)) []) [], Ro.mk _ (Eff.mk (some (20, _)) []) [], Ro.mk _ (Eff.mk (some (21, _)) []) [], Ro.mk _ (Eff.mk (some (22, _)) []) [], Ro.mk _ (Eff.mk (some (23, _)) []) [], Ro.mk _ (Eff.mk (some (24, _)) []) [], Ro.mk _ (Eff.mk (some (25, _)) []) [0], Ro.mk _ (Eff.mk (some (26, _)) []) [0], Ro.mk _ (Eff.mk (some (27, _)) []) [], Ro.mk _ (Eff.mk (some (28, _)) []) [], Ro.mk _ (Eff.mk (some (29, _)) []) [], Ro.mk _ (Eff.mk (some (30, _)) []) [0], Ro.mk _ (Eff.mk (some (31, _)) []) [0], Ro.mk _ (Eff.mk (some (32, _)) []) [], Ro.mk _ (Eff.mk (some (33, _)) []) [], Ro.mk _ (Eff.mk (some (34, _)) []) []] rfl ⟨(fun _ _ => .move rfl rfl), (fun _ _ => .move rfl rfl), (fun _ _ => .binv (.bool true) rfl rfl rfl rfl (congrArg Value.bool (decide_eq_true (by omega)))), (fun _ _ => .move rfl rfl), (.inr ⟨21, _, rfl, rfl, rfl, rfl, fun _ _ => .move rfl rfl⟩), (.inr ⟨21, _, rfl, rfl, rfl, rfl, fun _ _ => .move rfl rfl⟩), (.inr ⟨21, _, rfl, rfl, rfl, rfl, fun _ _ => .move rfl rfl⟩), (.inr ⟨21, _, rfl, rfl, rfl, rfl, fun _ _ => .idxo rfl rfl rfl rfl rfl et25 (Int.natCast_nonneg _) (by omega)⟩), (.inr ⟨21, _, rfl, rfl, rfl, rfl, fun _ _ => .ldpm rfl rfl rfl rfl (flat_at it_len ys (hjl)) (it_len _) tk35⟩), (.inr ⟨21, _, rfl, rfl, rfl, rfl, fun _ _ => .move rfl rfl⟩), (.inr ⟨21, _, rfl, rfl, rfl, rfl, fun _ _ => .move rfl rfl⟩), (.inr ⟨21, _, rfl, rfl, rfl, rfl, fun _ _ => .binv (.int .i64 ((j - 1 : Nat) : Int)) rfl rfl rfl rfl (congrArg _ (wrap_pred (by omega) (by omega)))⟩), (.inr ⟨21, _, rfl, rfl, rfl, rfl, fun _ _ => .idxo rfl rfl rfl rfl rfl et25 (Int.natCast_nonneg _) (by omega)⟩), (.inr ⟨21, _, rfl, rfl, rfl, rfl, fun _ _ => .ldpm rfl rfl rfl rfl (flat_at it_len ys (hjp)) (it_len _) tk35⟩), (.inr ⟨21, _, rfl, rfl, rfl, rfl, fun _ _ => .callvf0 rfl rfl cf32 rfl ⟨trivial, trivial, trivial⟩ (before_pf ys[j] ys[j - 1])⟩), (.inr ⟨21, _, rfl, rfl, rfl, rfl, fun _ _ => .binv (.bool true) rfl rfl rfl rfl (by rw [cmpIt_dec, hlt])⟩), (fun _ _ => .pick rfl rfl rfl), trivial⟩ (by kernel_rfl) ?_
        refine .next ?_
        refine .cond rfl (fun h4 => ?_) (fun h4 => absurd h4 (by decide))
        refine .skip ?_
        refine .next ?_
        refine .seq ?_
        refine .block ?_
        refine .draw mixed [Ro.mk _ (Eff.mk (some (37, _)) []) [], Ro.mk _ (Eff.mk (some (38, _)) []) [], Ro.mk _ (Eff.mk (some (39, _)) []) [], Ro.mk _ (Eff.mk (some (40, _)) []) [], Ro.mk _ (Eff.mk (some (41, _)) []) [], Ro.mk _ (Eff.mk (some (42, _)) []) [], Ro.mk _ (Eff.mk (some (43, _)) []) [], Ro.mk _ (Eff.mk (some (44, _)) []) [], Ro.mk _ (Eff.mk (some (45, _)) []) [0], Ro.mk _ (Eff.mk (some (46, _)) []) [0], Ro.mk _ (Eff.mk (some (47, _)) []) [], Ro.mk _ (Eff.mk (some (48, _)) []) [], Ro.mk _ (Eff.mk (some (49, _)) []) [0], Ro.mk _ (Eff.mk (some (50, _)) []) [0], Ro.mk _ (Eff.mk (some (51, _)) []) [0], Ro.mk _ (Eff.mk none [(0, _)]) [0], Ro.mk _ (Eff.mk (some (52, _)) []) [0], Ro.mk _ (Eff.mk none [(0, _)]) [0]] rfl ⟨(fun _ _ => .move rfl rfl), (fun _ _ => .move rfl rfl), (fun _ _ => .move rfl rfl), (fun _ _ => .move rfl rfl), (fun _ _ => .binv (.int .i64 ((j - 1 : Nat) : Int)) rfl rfl rfl rfl (congrArg _ (wrap_pred (by omega) (by omega)))), (fun _ _ => .move rfl rfl), (fun _ _ => .move rfl rfl), (fun _ _ => .binv (.int .i64 ((j - 1 : Nat) : Int)) rfl rfl rfl rfl (congrArg _ (wrap_pred (by omega) (by omega)))), (fun _ _ => .idxo rfl rfl rfl rfl rfl et25 (Int.natCast_nonneg _) (by omega)), (fun _ _ => .ldpm rfl rfl rfl rfl (flat_at it_len ys (hjp)) (it_len _) tk35), (fun _ _ => .move rfl rfl), (fun _ _ => .move rfl rfl), (fun _ _ => .idxo rfl rfl rfl rfl rfl et25 (Int.natCast_nonneg _) (by omega)), (fun _ _ => .ldpm rfl rfl rfl rfl (flat_at it_len ys (hjl)) (it_len _) tk35), (fun _ _ => .idxo rfl rfl rfl rfl rfl et25 (Int.natCast_nonneg _) (by omega)), (fun _ _ => .storerm (xs := ys) (enc := It.dv) (ys[j - 1]) rfl rfl rfl rfl rfl rfl (fun _ => rfl) sz35 rfl (hjl)), (fun _ _ => .idxo rfl rfl rfl rfl rfl et25 (Int.natCast_nonneg _) (by omega)), (fun _ _ => .storerm (xs := ys.set j ys[j - 1]) (enc := It.dv) (ys[j]) rfl rfl rfl rfl rfl rfl (fun _ => rfl) sz35 rfl (by rw [List.length_set]; exact hjp)), trivial⟩ (by kernel_rfl) ?_
        refine TE.blk ?_
        refine .next ?_
        refine .region ?_
        refine .step rfl (.move rfl rfl) ?_
        refine .step rfl (.binv (.int .i64 ((j - 1 : Nat) : Int)) rfl rfl rfl rfl (congrArg _ (wrap_pred (by omega) (by omega)))) ?_
        refine .step rfl (.assign rfl rfl) ?_
        refine .nil ?_
        refine TE.obj 0 (.mrow 0 35 64 ((swI ys j (j - 1)).flatMap It.dv)) rfl (by unfold swI; rw [at_eq hjl, at_eq hjp]) ?_
        exact TE.round id (fun _ _ e => e) ((j - 1, swI ys j (j - 1))) ⟨by show (swI ys j (j - 1)).length = _; rw [swI_len]; exact j1, by show j - 1 ≤ i; omega, by show insDown (j - 1) (swI ys j (j - 1)) a = _; rw [← j3, insDown_step hja hlt2]⟩ (by show j - 1 < j; omega) ⟨⟨rfl, rfl⟩, ⟨rfl, rfl⟩, ⟨rfl, rfl⟩, ⟨rfl, rfl⟩, ⟨rfl, rfl⟩, ⟨rfl, rfl⟩, trivial⟩ ⟨.inr rfl, trivial⟩
      · skip
        have hltf : ltI ys[j] ys[j - 1] = false := by simpa using hlt
        have hd : insDown i zs a = ys := by rw [← j3]; exact insDown_stop (fun q => hlt (by rw [at_eq hjl, at_eq hjp] at q; exact q.2))
        refine .draw mixed [Ro.mk _ (Eff.mk (some (18, _)) []) [], Ro.mk _ (Eff.mk (some (19, _)) []) [], Ro.mk _ (Eff.mk (some (20, _)) []) [], Ro.mk _ (Eff.mk (some (21, _)) []) [], Ro.mk _ (Eff.mk (some (22, _)) []) [], Ro.mk _ (Eff.mk (some (23, _)) []) [], Ro.mk _ (Eff.mk (some (24, _)) []) [], Ro.mk _ (Eff.mk (some (25, _)) []) [0], Ro.mk _ (Eff.mk (some (26, _)) []) [0], Ro.mk _ (Eff.mk (some (27, _)) []) [], Ro.mk _ (Eff.mk (some (28, _)) []) [], Ro.mk _ (Eff.mk (some (29, _)) []) [], Ro.mk _ (Eff.mk (some (30, _)) []) [0], Ro.mk _ (Eff.mk (some (31, _)) []) [0], Ro.mk _ (Eff.mk (some (32, _)) []) [], Ro.mk _ (Eff.mk (some (33, _)) []) [], Ro.mk _ (Eff.mk (some (34, _)) []) []] rfl ⟨(fun _ _ => .move rfl rfl), (fun _ _ => .move rfl rfl), (fun _ _ => .binv (.bool true) rfl rfl rfl rfl (congrArg Value.bool (decide_eq_true (by omega)))), (fun _ _ => .move rfl rfl), (.inr ⟨21, _, rfl, rfl, rfl, rfl, fun _ _ => .move rfl rfl⟩), (.inr ⟨21, _, rfl, rfl, rfl, rfl, fun _ _ => .move rfl rfl⟩), (.inr ⟨21, _, rfl, rfl, rfl, rfl, fun _ _ => .move rfl rfl⟩), (.inr ⟨21, _, rfl, rfl, rfl, rfl, fun _ _ => .idxo rfl rfl rfl rfl rfl et25 (Int.natCast_nonneg _) (by omega)⟩), (.inr ⟨21, _, rfl, rfl, rfl, rfl, fun _ _ => .ldpm rfl rfl rfl rfl (flat_at it_len ys (hjl)) (it_len _) tk35⟩), (.inr ⟨21, _, rfl, rfl, rfl, rfl, fun _ _ => .move rfl rfl⟩), (.inr ⟨21, _, rfl, rfl, rfl, rfl, fun _ _ => .move rfl rfl⟩), (.inr ⟨21, _, rfl, rfl, rfl, rfl, fun _ _ => .binv (.int .i64 ((j - 1 : Nat) : Int)) rfl rfl rfl rfl (congrArg _ (wrap_pred (by omega) (by omega)))⟩), (.inr ⟨21, _, rfl, rfl, rfl, rfl, fun _ _ => .idxo rfl rfl rfl rfl rfl et25 (Int.natCast_nonneg _) (by omega)⟩), (.inr ⟨21, _, rfl, rfl, rfl, rfl, fun _ _ => .ldpm rfl rfl rfl rfl (flat_at it_len ys (hjp)) (it_len _) tk35⟩), (.inr ⟨21, _, rfl, rfl, rfl, rfl, fun _ _ => .callvf0 rfl rfl cf32 rfl ⟨trivial, trivial, trivial⟩ (before_pf ys[j] ys[j - 1])⟩), (.inr ⟨21, _, rfl, rfl, rfl, rfl, fun _ _ => .binv (.bool false) rfl rfl rfl rfl (by rw [cmpIt_dec, hltf])⟩), (fun _ _ => .pick rfl rfl rfl), trivial⟩ (by kernel_rfl) ?_
        refine .next ?_
        refine .cond rfl (fun h5 => absurd h5 (by decide)) (fun h5 => ?_)
        refine .exit ?_
        refine TE.pass ?_
        refine TE.pass ?_
        refine TE.here ?_
        refine TE.blk ?_
        refine .next ?_
        refine .region ?_
        refine .step rfl (.move rfl rfl) ?_
        refine .step rfl (.binv (.int .i64 ((i + 1 : Nat) : Int)) rfl rfl rfl rfl (congrArg _ (wrap_succ hib (by omega)))) ?_
        refine .step rfl (.assign rfl rfl) ?_
        refine .nil ?_
        exact TE.round id (fun _ _ e => e) ((i + 1, ys)) ⟨j1, by show a + 1 ≤ i + 1; omega, by show insN (b - (i + 1)) ys a (i + 1) = _; rw [← i3, show b - i = (b - (i + 1)) + 1 by omega, insN, hd]⟩ (by show b - (i + 1) < b - i; omega) ⟨⟨rfl, rfl⟩, ⟨rfl, rfl⟩, ⟨rfl, rfl⟩, ⟨rfl, rfl⟩, ⟨rfl, rfl⟩, trivial⟩ ⟨.inr rfl, trivial⟩
    · skip
      have hd : insDown i zs a = ys := by rw [← j3]; exact insDown_stop (fun q => hja q.1)
      refine .draw mixed [Ro.mk _ (Eff.mk (some (18, _)) []) [], Ro.mk _ (Eff.mk (some (19, _)) []) [], Ro.mk _ (Eff.mk (some (20, _)) []) [], Ro.mk _ (Eff.mk (some (21, _)) []) [], Ro.mk _ (Eff.mk (some (22, _)) []) [], Ro.mk _ (Eff.mk (some (23, _)) []) [], Ro.mk _ (Eff.mk (some (24, _)) []) [], Ro.mk _ (Eff.mk (some (25, _)) []) [], Ro.mk _ (Eff.mk (some (26, _)) []) [], Ro.mk _ (Eff.mk (some (27, _)) []) [], Ro.mk _ (Eff.mk (some (28, _)) []) [], Ro.mk _ (Eff.mk (some (29, _)) []) [], Ro.mk _ (Eff.mk (some (30, _)) []) [], Ro.mk _ (Eff.mk (some (31, _)) []) [], Ro.mk _ (Eff.mk (some (32, _)) []) [], Ro.mk _ (Eff.mk (some (33, _)) []) [], Ro.mk _ (Eff.mk (some (34, _)) []) []] rfl ⟨(fun _ _ => .move rfl rfl), (fun _ _ => .move rfl rfl), (fun _ _ => .binv (.bool false) rfl rfl rfl rfl (congrArg Value.bool (decide_eq_false (by omega)))), (fun _ _ => .move rfl rfl), (.inr ⟨21, _, rfl, rfl, rfl, rfl, 22, rfl, rfl, rfl⟩), (.inr ⟨21, _, rfl, rfl, rfl, rfl, 23, rfl, rfl, rfl⟩), (.inr ⟨21, _, rfl, rfl, rfl, rfl, 24, rfl, rfl, rfl⟩), (.inr ⟨21, _, rfl, rfl, rfl, rfl, 25, rfl, rfl, rfl⟩), (.inr ⟨21, _, rfl, rfl, rfl, rfl, 26, rfl, rfl, rfl⟩), (.inr ⟨21, _, rfl, rfl, rfl, rfl, 27, rfl, rfl, rfl⟩), (.inr ⟨21, _, rfl, rfl, rfl, rfl, 28, rfl, rfl, rfl⟩), (.inr ⟨21, _, rfl, rfl, rfl, rfl, 29, rfl, rfl, rfl⟩), (.inr ⟨21, _, rfl, rfl, rfl, rfl, 30, rfl, rfl, rfl⟩), (.inr ⟨21, _, rfl, rfl, rfl, rfl, 31, rfl, rfl, rfl⟩), (.inr ⟨21, _, rfl, rfl, rfl, rfl, 32, rfl, rfl, rfl⟩), (.inr ⟨21, _, rfl, rfl, rfl, rfl, 33, rfl, rfl, rfl⟩), (fun _ _ => .pick rfl rfl rfl), trivial⟩ (by kernel_rfl) ?_
      refine .next ?_
      refine .cond rfl (fun h6 => absurd h6 (by decide)) (fun h6 => ?_)
      refine .exit ?_
      refine TE.pass ?_
      refine TE.pass ?_
      refine TE.here ?_
      refine TE.blk ?_
      refine .next ?_
      refine .region ?_
      refine .step rfl (.move rfl rfl) ?_
      refine .step rfl (.binv (.int .i64 ((i + 1 : Nat) : Int)) rfl rfl rfl rfl (congrArg _ (wrap_succ hib (by omega)))) ?_
      refine .step rfl (.assign rfl rfl) ?_
      refine .nil ?_
      exact TE.round id (fun _ _ e => e) ((i + 1, ys)) ⟨j1, by show a + 1 ≤ i + 1; omega, by show insN (b - (i + 1)) ys a (i + 1) = _; rw [← i3, show b - i = (b - (i + 1)) + 1 by omega, insN, hd]⟩ (by show b - (i + 1) < b - i; omega) ⟨⟨rfl, rfl⟩, ⟨rfl, rfl⟩, ⟨rfl, rfl⟩, ⟨rfl, rfl⟩, ⟨rfl, rfl⟩, trivial⟩ ⟨.inr rfl, trivial⟩
  · skip
    have hib : ¬ i < b := by have q : ¬ ((i : Int) < (b : Int)) := of_decide_eq_false h1; omega
    rw [show b - i = 0 by omega] at i3
    have e : zs = insS xs a b := i3
    subst e
    refine .exit ?_
    refine TE.pass ?_
    refine TE.pass ?_
    refine TE.here ?_
    exact TE.retm0 0 rfl rfl rfl

end Go.Proofs.Ythbcbfghfhecjaa
