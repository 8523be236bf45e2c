/-
  The library's stable sort.
-/
import Derived.Test.YthbcbfghfhecjaaVd
namespace Go.Proofs.Ythbcbfghfhecjaa
set_option linter.unusedVariables false
set_option linter.unusedSimpArgs false
open Go.RowKit Pl

theorem cf44 : cfn Try.prog 44 = true := by kernel_rfl
theorem cf52 : cfn Try.prog 52 = true := by kernel_rfl
theorem is25 : isSl Try.prog 25 = some true := by kernel_rfl

theorem sym_pm (n : Nat) : ∀ (xs : List It) (a m b : Nat), a < m → m < b → b ≤ xs.length → xs.length ≤ 1048576 → b - a ≤ n → PM Try.prog 53 [.ow 0 xs.length 64, .d (.v (.int .i64 a)), .d (.v (.int .i64 m)), .d (.v (.int .i64 b)), .d (.fn (.func 32) [] [])] (.mrow 0 35 64 ((xs).flatMap It.dv)) (.mrow 0 35 64 ((symM n xs a m b).flatMap It.dv)) (.d (.tp [])) := by
  induction n with
  | zero => intro xs a m b h1 h2 h3 h4 h5; exfalso; omega
  | succ n ih => intro xs a m b h1 h2 h3 h4 h5; exact sym_step n ih xs a m b h1 h2 h3 h4 h5

set_option maxRecDepth 100000 in
set_option maxHeartbeats 1600000 in
theorem stable_pm (xs : List It) (hx : xs.length ≤ 1048576) : PM Try.prog 44 [.ow 0 xs.length 64, .d (.v (.int .i64 xs.length)), .d (.fn (.func 32) [] [])] (.mrow 0 35 64 ((xs).flatMap It.dv)) (.mrow 0 35 64 ((stI xs).flatMap It.dv)) (.d (.tp [])) := by
  refine PM.enter (fn := Try.f44) Try.func44 rfl Try.ntmps44 rfl rfl rfl (fun w0 K0 ob => ?_)
  refine .seq ?_
  refine .region ?_
  refine .step rfl (.assign rfl rfl) ?_
  refine .nil ?_
  refine .next ?_
  refine .seq ?_
  refine .region ?_
  refine .step rfl (.move rfl rfl) ?_
  refine .step rfl (.assign rfl rfl) ?_
  refine .step rfl (.assign rfl rfl) ?_
  refine .nil ?_
  refine TE.setv 7 (.int .i64 ((0 : Nat) : Int)) rfl rfl ?_
  refine TE.setv 8 (.int .i64 ((0 + 20 : Nat) : Int)) rfl rfl ?_
  refine .next ?_
  refine .seq ?_
  refine .block ?_
  refine TC.loop (S := Nat × List It) (fun s => s.2.length = xs.length ∧ s.1 ≤ xs.length ∧ stB (xs.length - s.1) s.2 s.1 = stB xs.length xs 0) (fun s => xs.length - s.1) (fun s => [(0, .ow 0 xs.length 64), (1, .d (.v (.int .i64 xs.length))), (2, .d (.fn (.func 32) [] [])), (6, .f (.v (.int .i64 ((20 : Nat) : Int)))), (7, .d (.v (.int .i64 ((s.1 : Nat) : Int)))), (8, .d (.v (.int .i64 ((s.1 + 20 : Nat) : Int))))]) (fun s => [(0, .mrow 0 35 64 ((s.2).flatMap It.dv))]) ((0, xs)) ⟨rfl, Nat.zero_le _, rfl⟩ ⟨⟨rfl, rfl⟩, ⟨rfl, rfl⟩, ⟨rfl, rfl⟩, ⟨rfl, rfl⟩, ⟨rfl, rfl⟩, ⟨rfl, rfl⟩, trivial⟩ ⟨.inr rfl, trivial⟩ (fun s hI => ?_)
  obtain ⟨a, ys⟩ := s
  obtain ⟨i1, i2, i3⟩ := hI
  have i1 : ys.length = xs.length := i1
  have i2 : a ≤ xs.length := i2
  have i3 : stB (xs.length - a) ys a = stB xs.length xs 0 := i3
  refine .seq ?_
  refine .seq ?_
  refine .region ?_
  refine .step rfl (.move rfl rfl) ?_
  refine .step rfl (.move rfl rfl) ?_
  refine .step rfl (.bin rfl rfl rfl rfl) ?_
  refine .nil ?_
  refine .next ?_
  refine .cond rfl (fun h1 => ?_) (fun h1 => ?_)
  · skip
    have ha : a + 20 ≤ xs.length := by have q := of_decide_eq_true h1; (try dsimp only at q); omega
    refine .skip ?_
    refine .next ?_
    refine .block ?_
    refine .seq ?_
    refine .region ?_
    refine .step rfl (.move rfl rfl) ?_
    refine .step rfl (.move rfl rfl) ?_
    refine .step rfl (.move rfl rfl) ?_
    refine .step rfl (.move rfl rfl) ?_
    refine .step rfl (.callm (o' := .mrow 0 35 64 ((insS ys a (a + 20)).flatMap It.dv)) 0 rfl cf52 rfl rfl rfl rfl (by simp) rfl rfl (i1 ▸ ins_pm ys a (a + 20) (by omega) (by omega) (by omega))) ?_
    refine .nil ?_
    refine .next ?_
    refine .seq ?_
    refine .region ?_
    refine .step rfl (.move rfl rfl) ?_
    refine .step rfl (.assign rfl rfl) ?_
    refine .nil ?_
    refine TE.setv 7 (.int .i64 ((a + 20 : Nat) : Int)) rfl rfl ?_
    refine .next ?_
    refine .region ?_
    refine .step rfl (.move rfl rfl) ?_
    refine .step rfl (.move rfl rfl) ?_
    refine .step rfl (.binv (.int .i64 ((a + 20 + 20 : Nat) : Int)) rfl rfl rfl rfl (congrArg _ (by (try dsimp only); rw [IntKind.wrap_i64]; omega))) ?_
    refine .step rfl (.assign rfl rfl) ?_
    refine .nil ?_
    refine TE.blk ?_
    refine TE.setv 8 (.int .i64 ((a + 20 + 20 : Nat) : Int)) rfl rfl ?_
    exact TE.round id (fun _ _ e => e) ((a + 20, insS ys a (a + 20))) ⟨by show (insS ys a (a + 20)).length = _; rw [insS_len]; exact i1, by show a + 20 ≤ xs.length; omega, by show stB (xs.length - (a + 20)) (insS ys a (a + 20)) (a + 20) = _; rw [← i3, stB_step (f := xs.length - a) (by omega) (by omega)]; exact stB_fuel (by rw [insS_len]; omega) (by rw [insS_len]; omega)⟩ (by show xs.length - (a + 20) < xs.length - a; omega) ⟨⟨rfl, rfl⟩, ⟨rfl, rfl⟩, ⟨rfl, rfl⟩, ⟨rfl, rfl⟩, ⟨rfl, rfl⟩, ⟨rfl, rfl⟩, trivial⟩ ⟨.inr rfl, trivial⟩
  · skip
    have ha : ¬ (a + 20 ≤ xs.length) := by have q := of_decide_eq_false h1; (try dsimp only at q); omega
    have e1 : stB xs.length xs 0 = insS ys a xs.length := by rw [← i3, stB_end (by omega), i1]
    refine .exit ?_
    refine TE.pass ?_
    refine TE.pass ?_
    refine TE.here ?_
    refine .next ?_
    refine .seq ?_
    refine .region ?_
    refine .step rfl (.move rfl rfl) ?_
    refine .step rfl (.move rfl rfl) ?_
    refine .step rfl (.move rfl rfl) ?_
    refine .step rfl (.move rfl rfl) ?_
    refine .step rfl (.callm (o' := .mrow 0 35 64 ((insS ys a xs.length).flatMap It.dv)) 0 rfl cf52 rfl rfl rfl rfl (by simp) rfl rfl (i1 ▸ ins_pm ys a xs.length (by omega) (by omega) (by omega))) ?_
    refine .nil ?_
    refine TE.obj 0 (.mrow 0 35 64 ((stB xs.length xs 0).flatMap It.dv)) rfl (by rw [e1]) ?_
    refine TE.setv 6 (.int .i64 ((20 : Nat) : Int)) rfl rfl ?_
    refine .next ?_
    refine .block ?_
    refine TC.loop (S := Nat × Nat × List It) (fun s => s.2.2.length = xs.length ∧ 0 < s.2.1 ∧ stM s.1 s.2.1 s.2.2 = stI xs ∧ xs.length ≤ s.2.1 + s.1) (fun s => xs.length - s.2.1) (fun s => [(0, .ow 0 xs.length 64), (1, .d (.v (.int .i64 xs.length))), (2, .d (.fn (.func 32) [] [])), (6, .d (.v (.int .i64 ((s.2.1 : Nat) : Int))))]) (fun s => [(0, .mrow 0 35 64 ((s.2.2).flatMap It.dv))]) ((xs.length, 20, stB xs.length xs 0)) ⟨stB_len _ _ _, by show 0 < 20; decide, rfl, by show xs.length ≤ 20 + xs.length; omega⟩ ⟨⟨rfl, rfl⟩, ⟨rfl, rfl⟩, ⟨rfl, rfl⟩, ⟨rfl, rfl⟩, trivial⟩ ⟨.inr rfl, trivial⟩ (fun s hI => ?_)
    obtain ⟨f, z, ys⟩ := s
    obtain ⟨j1, j2, j3, j4⟩ := hI
    have j1 : ys.length = xs.length := j1
    have j2 : 0 < z := j2
    have j3 : stM f z ys = stI xs := j3
    have j4 : xs.length ≤ z + f := j4
    refine .seq ?_
    refine .seq ?_
    refine .region ?_
    refine .step rfl (.move rfl rfl) ?_
    refine .step rfl (.move rfl rfl) ?_
    refine .step rfl (.bin rfl rfl rfl rfl) ?_
    refine .nil ?_
    refine .next ?_
    refine .cond rfl (fun h2 => ?_) (fun h2 => ?_)
    · skip
      have hz : z < xs.length := by have q := of_decide_eq_true h2; (try dsimp only at q); omega
      refine .skip ?_
      refine .next ?_
      refine .block ?_
      refine .seq ?_
      refine .region ?_
      refine .step rfl (.move rfl rfl) ?_
      refine .step rfl (.binv (.int .i64 ((2 * z : Nat) : Int)) rfl rfl rfl rfl (congrArg _ (by (try dsimp only); rw [IntKind.wrap_i64]; omega))) ?_
      refine .step rfl (.assign rfl rfl) ?_
      refine .step rfl (.assign rfl rfl) ?_
      refine .nil ?_
      refine TE.setv 7 (.int .i64 ((0 : Nat) : Int)) rfl rfl ?_
      refine TE.setv 8 (.int .i64 ((0 + 2 * z : Nat) : Int)) rfl (by rw [Nat.zero_add]) ?_
      refine .next ?_
      refine .seq ?_
      refine .block ?_
      refine TC.loop (S := Nat × List It) (fun s => s.2.length = xs.length ∧ s.1 ≤ xs.length ∧ stP (xs.length - s.1) s.2 z s.1 = stP ys.length ys z 0) (fun s => xs.length - s.1) (fun s => [(0, .ow 0 xs.length 64), (1, .d (.v (.int .i64 xs.length))), (2, .d (.fn (.func 32) [] [])), (6, .d (.v (.int .i64 ((z : Nat) : Int)))), (7, .d (.v (.int .i64 ((s.1 : Nat) : Int)))), (8, .d (.v (.int .i64 ((s.1 + 2 * z : Nat) : Int))))]) (fun s => [(0, .mrow 0 35 64 ((s.2).flatMap It.dv))]) ((0, ys)) ⟨j1, Nat.zero_le _, by rw [j1]; rfl⟩ ⟨⟨rfl, rfl⟩, ⟨rfl, rfl⟩, ⟨rfl, rfl⟩, ⟨rfl, rfl⟩, ⟨rfl, rfl⟩, ⟨rfl, rfl⟩, trivial⟩ ⟨.inr rfl, trivial⟩ (fun s hI => ?_)
      obtain ⟨a, zs⟩ := s
      obtain ⟨k1, k2, k3⟩ := hI
      have k1 : zs.length = xs.length := k1
      have k2 : a ≤ xs.length := k2
      have k3 : stP (xs.length - a) zs z a = stP ys.length ys z 0 := k3
      refine .seq ?_
      refine .seq ?_
      refine .region ?_
      refine .step rfl (.move rfl rfl) ?_
      refine .step rfl (.move rfl rfl) ?_
      refine .step rfl (.bin rfl rfl rfl rfl) ?_
      refine .nil ?_
      refine .next ?_
      refine .cond rfl (fun h3 => ?_) (fun h3 => ?_)
      · skip
        have hb2 : a + 2 * z ≤ xs.length := by have q := of_decide_eq_true h3; (try dsimp only at q); omega
        refine .skip ?_
        refine .next ?_
        refine .block ?_
        refine .seq ?_
        refine .region ?_
        refine .step rfl (.move rfl rfl) ?_
        refine .step rfl (.move rfl rfl) ?_
        refine .step rfl (.move rfl rfl) ?_
        refine .step rfl (.move rfl rfl) ?_
        refine .step rfl (.binv (.int .i64 ((a + z : Nat) : Int)) rfl rfl rfl rfl (congrArg _ (by (try dsimp only); rw [IntKind.wrap_i64]; omega))) ?_
        refine .step rfl (.move rfl rfl) ?_
        refine .step rfl (.move rfl rfl) ?_
        refine .step rfl (.callm (o' := .mrow 0 35 64 ((symM (2 * z) zs a (a + z) (a + 2 * z)).flatMap It.dv)) 0 rfl cf53 rfl rfl rfl rfl (by simp) rfl rfl (k1 ▸ sym_pm (2 * z) zs a (a + z) (a + 2 * z) (by omega) (by omega) (by omega) (by omega) (by omega))) ?_
        refine .nil ?_
        refine .next ?_
        refine .seq ?_
        refine .region ?_
        refine .step rfl (.move rfl rfl) ?_
        refine .step rfl (.assign rfl rfl) ?_
        refine .nil ?_
        refine TE.setv 7 (.int .i64 ((a + 2 * z : Nat) : Int)) rfl rfl ?_
        refine .next ?_
        refine .region ?_
        refine .step rfl (.move rfl rfl) ?_
        refine .step rfl (.move rfl rfl) ?_
        refine .step rfl (.binv (.int .i64 ((2 * z : Nat) : Int)) rfl rfl rfl rfl (congrArg _ (by (try dsimp only); rw [IntKind.wrap_i64]; omega))) ?_
        refine .step rfl (.binv (.int .i64 ((a + 2 * z + 2 * z : Nat) : Int)) rfl rfl rfl rfl (congrArg _ (by (try dsimp only); rw [IntKind.wrap_i64]; omega))) ?_
        refine .step rfl (.assign rfl rfl) ?_
        refine .nil ?_
        refine TE.blk ?_
        refine TE.setv 8 (.int .i64 ((a + 2 * z + 2 * z : Nat) : Int)) rfl rfl ?_
        exact TE.round id (fun _ _ e => e) ((a + 2 * z, symM (2 * z) zs a (a + z) (a + 2 * z))) ⟨by show (symM (2 * z) zs a (a + z) (a + 2 * z)).length = _; rw [symM_len]; exact k1, by show a + 2 * z ≤ xs.length; omega, by show stP (xs.length - (a + 2 * z)) (symM (2 * z) zs a (a + z) (a + 2 * z)) z (a + 2 * z) = _; rw [← k3, stP_step (f := xs.length - a) (by omega) (by omega) (by omega)]; exact stP_fuel j2 (by rw [symM_len]; omega) (by rw [symM_len]; omega)⟩ (by show xs.length - (a + 2 * z) < xs.length - a; omega) ⟨⟨rfl, rfl⟩, ⟨rfl, rfl⟩, ⟨rfl, rfl⟩, ⟨rfl, rfl⟩, ⟨rfl, rfl⟩, ⟨rfl, rfl⟩, trivial⟩ ⟨.inr rfl, trivial⟩
      · skip
        have hb2 : ¬ (a + 2 * z ≤ xs.length) := by have q := of_decide_eq_false h3; (try dsimp only at q); omega
        have e3 : stP ys.length ys z 0 = if a + z < xs.length then symM (xs.length - a) zs a (a + z) xs.length else zs := by rw [← k3, stP_end (by omega), k1]
        refine .exit ?_
        refine TE.pass ?_
        refine TE.pass ?_
        refine TE.here ?_
        refine .next ?_
        refine .seq ?_
        refine .seq ?_
        refine .region ?_
        refine .step rfl (.move rfl rfl) ?_
        refine .step rfl (.move rfl rfl) ?_
        refine .step rfl (.binv (.int .i64 ((a + z : Nat) : Int)) rfl rfl rfl rfl (congrArg _ (by (try dsimp only); rw [IntKind.wrap_i64]; omega))) ?_
        refine .step rfl (.assign rfl rfl) ?_
        refine .nil ?_
        refine .next ?_
        refine .seq ?_
        refine .region ?_
        refine .step rfl (.move rfl rfl) ?_
        refine .step rfl (.move rfl rfl) ?_
        refine .step rfl (.bin rfl rfl rfl rfl) ?_
        refine .nil ?_
        refine .next ?_
        refine .cond rfl (fun h4 => ?_) (fun h4 => ?_)
        · skip
          have hm : a + z < xs.length := by have q := of_decide_eq_true h4; (try dsimp only at q); omega
          have e4 : stP ys.length ys z 0 = symM (xs.length - a) zs a (a + z) xs.length := by rw [e3, if_pos hm]
          refine .region ?_
          refine .step rfl (.move rfl rfl) ?_
          refine .step rfl (.move rfl rfl) ?_
          refine .step rfl (.move rfl rfl) ?_
          refine .step rfl (.move rfl rfl) ?_
          refine .step rfl (.move rfl rfl) ?_
          refine .step rfl (.callm (o' := .mrow 0 35 64 ((symM (xs.length - a) zs a (a + z) xs.length).flatMap It.dv)) 0 rfl cf53 rfl rfl rfl rfl (by simp) rfl rfl (k1 ▸ sym_pm (xs.length - a) zs a (a + z) xs.length (by omega) (by omega) (by omega) (by omega) (by omega))) ?_
          refine .nil ?_
          refine .next ?_
          refine .region ?_
          refine .step rfl (.move rfl rfl) ?_
          refine .step rfl (.binv (.int .i64 ((2 * z : Nat) : Int)) rfl rfl rfl rfl (congrArg _ (by (try dsimp only); rw [IntKind.wrap_i64]; omega))) ?_
          refine .step rfl (.assign rfl rfl) ?_
          refine .nil ?_
          refine TE.obj 0 (.mrow 0 35 64 ((stP ys.length ys z 0).flatMap It.dv)) rfl (by rw [e4]) ?_
          refine TE.blk ?_
          refine TE.setv 6 (.int .i64 ((2 * z : Nat) : Int)) rfl rfl ?_
          exact TE.round id (fun _ _ e => e) ((f - 1, 2 * z, stP ys.length ys z 0)) ⟨by show (stP ys.length ys z 0).length = _; rw [stP_len]; exact j1, by show 0 < 2 * z; omega, by show stM (f - 1) (2 * z) (stP ys.length ys z 0) = _; rw [← j3]; exact (stM_step (by omega) (by omega)).symm, by show xs.length ≤ 2 * z + (f - 1); omega⟩ (by show xs.length - 2 * z < xs.length - z; omega) ⟨⟨rfl, rfl⟩, ⟨rfl, rfl⟩, ⟨rfl, rfl⟩, ⟨rfl, rfl⟩, trivial⟩ ⟨.inr rfl, trivial⟩
        · skip
          have hm : ¬ (a + z < xs.length) := by have q := of_decide_eq_false h4; (try dsimp only at q); omega
          have e4 : stP ys.length ys z 0 = zs := by rw [e3, if_neg hm]
          refine .skip ?_
          refine .next ?_
          refine .region ?_
          refine .step rfl (.move rfl rfl) ?_
          refine .step rfl (.binv (.int .i64 ((2 * z : Nat) : Int)) rfl rfl rfl rfl (congrArg _ (by (try dsimp only); rw [IntKind.wrap_i64]; omega))) ?_
          refine .step rfl (.assign rfl rfl) ?_
          refine .nil ?_
          refine TE.obj 0 (.mrow 0 35 64 ((stP ys.length ys z 0).flatMap It.dv)) rfl (by rw [e4]) ?_
          refine TE.blk ?_
          refine TE.setv 6 (.int .i64 ((2 * z : Nat) : Int)) rfl rfl ?_
          exact TE.round id (fun _ _ e => e) ((f - 1, 2 * z, stP ys.length ys z 0)) ⟨by show (stP ys.length ys z 0).length = _; rw [stP_len]; exact j1, by show 0 < 2 * z; omega, by show stM (f - 1) (2 * z) (stP ys.length ys z 0) = _; rw [← j3]; exact (stM_step (by omega) (by omega)).symm, by show xs.length ≤ 2 * z + (f - 1); omega⟩ (by show xs.length - 2 * z < xs.length - z; omega) ⟨⟨rfl, rfl⟩, ⟨rfl, rfl⟩, ⟨rfl, rfl⟩, ⟨rfl, rfl⟩, trivial⟩ ⟨.inr rfl, trivial⟩
    · skip
      have hz : ¬ (z < xs.length) := by have q := of_decide_eq_false h2; (try dsimp only at q); omega
      have e2 : ys = stI xs := by rw [← j3, stM_end (by omega)]
      subst e2
      refine .exit ?_
      refine TE.pass ?_
      refine TE.pass ?_
      refine TE.here ?_
      exact TE.retm0 0 rfl rfl rfl

set_option maxRecDepth 100000 in
set_option maxHeartbeats 1600000 in
theorem sort_pm (xs : List It) (hx : xs.length ≤ 1048576) : PM Try.prog 31 [.ow 0 xs.length 64, .d (.fn (.func 32) [] [])] (.mrow 0 35 64 ((xs).flatMap It.dv)) (.mrow 0 35 64 ((stI xs).flatMap It.dv)) (.d (.tp [])) := by
  refine PM.enter (fn := Try.f31) Try.func31 rfl Try.ntmps31 rfl rfl rfl (fun w0 K0 ob => ?_)
  refine .region ?_
  refine .step rfl (.move rfl rfl) ?_
  refine .step rfl (.move rfl rfl) ?_
  refine .step rfl (.leno rfl rfl rfl is25) ?_
  refine .step rfl (.move rfl rfl) ?_
  refine .step rfl (.callm (o' := .mrow 0 35 64 ((stI xs).flatMap It.dv)) 0 rfl cf44 rfl rfl rfl rfl (by simp) rfl rfl (stable_pm xs hx)) ?_
  refine .nil ?_
  exact TE.retm0 0 rfl rfl rfl

end Go.Proofs.Ythbcbfghfhecjaa
