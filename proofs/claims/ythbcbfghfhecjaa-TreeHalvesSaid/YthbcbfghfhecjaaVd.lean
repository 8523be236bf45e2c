/-
  The library's merging of neighbours.
-/
import Derived.Test.YthbcbfghfhecjaaVc
namespace Go.Proofs.Ythbcbfghfhecjaa
set_option linter.unusedVariables false
set_option linter.unusedSimpArgs false
open Go.RowKit Pl

theorem cf53 : cfn Try.prog 53 = true := by kernel_rfl
theorem cf65 : cfn Try.prog 65 = true := by kernel_rfl
theorem uk3 : ukd Try.prog 3 = some .i64 := by kernel_rfl
theorem uk48 : ukd Try.prog 48 = some .u64 := by kernel_rfl

set_option maxRecDepth 100000 in
set_option maxHeartbeats 32000000 in
theorem sym_step (n : Nat) (ih : ∀ (xs : List It) (a m b : Nat), a < m → m < b → b ≤ xs.length → xs.length ≤ 1048576 → b - a ≤ n → PM Try.prog 53 [.ow 0 xs.length 64, .d (.v (.int .i64 a)), .d (.v (.int .i64 m)), .d (.v (.int .i64 b)), .d (.fn (.func 32) [] [])] (.mrow 0 35 64 ((xs).flatMap It.dv)) (.mrow 0 35 64 ((symM n xs a m b).flatMap It.dv)) (.d (.tp []))) (xs : List It) (a m b : Nat) (ham : a < m) (hmb : m < b) (hb : b ≤ xs.length) (hx : xs.length ≤ 1048576) (hn : b - a ≤ n + 1) : PM Try.prog 53 [.ow 0 xs.length 64, .d (.v (.int .i64 a)), .d (.v (.int .i64 m)), .d (.v (.int .i64 b)), .d (.fn (.func 32) [] [])] (.mrow 0 35 64 ((xs).flatMap It.dv)) (.mrow 0 35 64 ((symM (n + 1) xs a m b).flatMap It.dv)) (.d (.tp [])) := by
  refine PM.enter (fn := Try.f53) Try.func53 rfl Try.ntmps53 rfl rfl rfl (fun w0 K0 ob => ?_)
  refine .seq ?_
  refine .seq ?_
  refine .region ?_
  refine .step rfl (.move rfl rfl) ?_
  refine .step rfl (.move rfl rfl) ?_
  refine .step rfl (.binv (.int .i64 ((m - a : Nat) : Int)) rfl rfl rfl rfl (congrArg _ (by (try dsimp only); rw [IntKind.wrap_i64]; omega))) ?_
  refine .step rfl (.bin rfl rfl rfl rfl) ?_
  refine .nil ?_
  refine .next ?_
  refine .cond rfl (fun h1 => ?_) (fun h1 => ?_)
  · skip
    have hm1 : m - a = 1 := by have q := of_decide_eq_true h1; omega
    have e : symM (n + 1) xs a m b = symA xs a m b := by unfold symM; rw [if_pos hm1]
    rw [e]
    refine .seq ?_
    refine .region ?_
    refine .step rfl (.move rfl rfl) ?_
    refine .step rfl (.assign rfl rfl) ?_
    refine .nil ?_
    refine .next ?_
    refine .seq ?_
    refine .region ?_
    refine .step rfl (.move rfl rfl) ?_
    refine .step rfl (.assign rfl rfl) ?_
    refine .nil ?_
    refine .next ?_
    refine .seq ?_
    refine .block ?_
    refine TC.loop (S := Nat × Nat × Nat) (fun s => m ≤ s.2.1 ∧ s.2.1 ≤ s.2.2 ∧ s.2.2 ≤ b ∧ s.2.2 - s.2.1 ≤ s.1 ∧ bsP (fun h => ltI (at_ xs h) (at_ xs a)) s.1 s.2.1 s.2.2 = bsP (fun h => ltI (at_ xs h) (at_ xs a)) (b - m) m b) (fun s => s.2.2 - s.2.1) (fun s => [(0, .ow 0 xs.length 64), (1, .d (.v (.int .i64 a))), (2, .d (.v (.int .i64 m))), (3, .d (.v (.int .i64 b))), (4, .d (.fn (.func 32) [] [])), (10, .d (.v (.int .i64 ((s.2.1 : Nat) : Int)))), (11, .d (.v (.int .i64 ((s.2.2 : Nat) : Int))))]) (fun s => [(0, .mrow 0 35 64 ((xs).flatMap It.dv))]) ((b - m, m, b)) ⟨Nat.le_refl _, by show m ≤ b; omega, Nat.le_refl _, Nat.le_refl _, rfl⟩ ⟨⟨rfl, rfl⟩, ⟨rfl, rfl⟩, ⟨rfl, rfl⟩, ⟨rfl, rfl⟩, ⟨rfl, rfl⟩, ⟨rfl, rfl⟩, ⟨rfl, rfl⟩, trivial⟩ ⟨.inr rfl, trivial⟩ (fun s hI => ?_)
    obtain ⟨f, i, j⟩ := s
    obtain ⟨i1, i2, i3, i4, i5⟩ := hI
    have i1 : m ≤ i := i1
    have i2 : i ≤ j := i2
    have i3 : j ≤ b := i3
    have i4 : j - i ≤ f := i4
    have i5 : bsP (fun h => ltI (at_ xs h) (at_ xs a)) f i j = bsP (fun h => ltI (at_ xs h) (at_ xs a)) (b - m) m b := i5
    refine .seq ?_
    refine .seq ?_
    refine .region ?_
    refine .step rfl (.move rfl rfl) ?_
    refine .step rfl (.move rfl rfl) ?_
    refine .step rfl (.bin rfl rfl rfl rfl) ?_
    refine .nil ?_
    refine .next ?_
    refine .cond rfl (fun h2 => ?_) (fun h2 => ?_)
    · skip
      have hij : i < j := by have q := of_decide_eq_true h2; (try dsimp only at q); omega
      have hh : (i + j) / 2 < xs.length := by omega
      refine .skip ?_
      refine .next ?_
      refine .block ?_
      refine .seq ?_
      refine .region ?_
      refine .step rfl (.move rfl rfl) ?_
      refine .step rfl (.move rfl rfl) ?_
      refine .step rfl (.binv (.int .i64 ((i + j : Nat) : Int)) rfl rfl rfl rfl (congrArg _ (by (try dsimp only); rw [IntKind.wrap_i64]; omega))) ?_
      refine .step rfl (.conviv (((i + j : Nat) : Int)) rfl rfl uk3 uk48 (wrap_natu _ (by omega))) ?_
      refine .step rfl (.shr (((((i + j) / 2 : Nat)) : Int)) rfl rfl rfl (by decide) (half_eq _)) ?_
      refine .step rfl (.conviv (((((i + j) / 2 : Nat)) : Int)) rfl rfl uk48 uk3 (wrap_nat _ (by omega))) ?_
      refine .step rfl (.assign rfl rfl) ?_
      refine .nil ?_
      refine .next ?_
      refine .seq ?_
      by_cases hq : ltI xs[(i + j) / 2] xs[a] = true
      · skip
        have hp :  (fun h => ltI (at_ xs h) (at_ xs a)) ((i + j) / 2) = true := by simp only []; rw [at_eq hh, at_eq (show a < xs.length by omega), hq] <;> simp
        refine .draw mixed [Ro.mk _ (Eff.mk (some (40, _)) []) [], Ro.mk _ (Eff.mk (some (41, _)) []) [], Ro.mk _ (Eff.mk (some (42, _)) []) [], Ro.mk _ (Eff.mk (some (43, _)) []) [0], Ro.mk _ (Eff.mk (some (44, _)) []) [0], Ro.mk _ (Eff.mk (some (45, _)) []) [], Ro.mk _ (Eff.mk (some (46, _)) []) [], Ro.mk _ (Eff.mk (some (47, _)) []) [0], Ro.mk _ (Eff.mk (some (48, _)) []) [0], Ro.mk _ (Eff.mk (some (49, _)) []) [], Ro.mk _ (Eff.mk (some (50, _)) []) []] rfl ⟨(fun _ _ => .move rfl rfl), (fun _ _ => .move rfl rfl), (fun _ _ => .move rfl rfl), (fun _ _ => .idxo rfl rfl rfl rfl rfl et25 (Int.natCast_nonneg _) (by omega)), (fun _ _ => .ldpm rfl rfl rfl rfl (flat_at it_len xs (hh)) (it_len _) tk35), (fun _ _ => .move rfl rfl), (fun _ _ => .move rfl rfl), (fun _ _ => .idxo rfl rfl rfl rfl rfl et25 (Int.natCast_nonneg _) (by omega)), (fun _ _ => .ldpm rfl rfl rfl rfl (flat_at it_len xs ((show a < xs.length by omega))) (it_len _) tk35), (fun _ _ => .callvf0 rfl rfl cf32 rfl ⟨trivial, trivial, trivial⟩ (before_pf xs[(i + j) / 2] xs[a])), (fun _ _ => .binv (.bool true) rfl rfl rfl rfl (by rw [cmpIt_dec, hq])), trivial⟩ (by kernel_rfl) ?_
        refine .next ?_
        refine .cond rfl (fun h4 => ?_) (fun h4 => absurd h4 (by decide))
        refine .region ?_
        refine .step rfl (.move rfl rfl) ?_
        refine .step rfl (.binv (.int .i64 (((i + j) / 2 + 1 : Nat) : Int)) rfl rfl rfl rfl (congrArg _ (by (try dsimp only); rw [IntKind.wrap_i64]; omega))) ?_
        refine .step rfl (.assign rfl rfl) ?_
        refine .nil ?_
        refine TE.blk ?_
        refine TE.setv 10 (.int .i64 (((i + j) / 2 + 1 : Nat) : Int)) rfl rfl ?_
        exact TE.round id (fun _ _ e => e) ((f - 1, (i + j) / 2 + 1, j)) ⟨by show m ≤ (i + j) / 2 + 1; omega, by show (i + j) / 2 + 1 ≤ j; omega, i3, by show j - ((i + j) / 2 + 1) ≤ f - 1; omega, by show bsP (fun h => ltI (at_ xs h) (at_ xs a)) (f - 1) ((i + j) / 2 + 1) j = _; rw [← i5, bsP_step hij i4, if_pos hp]⟩ (by show j - ((i + j) / 2 + 1) < j - i; omega) ⟨⟨rfl, rfl⟩, ⟨rfl, rfl⟩, ⟨rfl, rfl⟩, ⟨rfl, rfl⟩, ⟨rfl, rfl⟩, ⟨rfl, rfl⟩, ⟨rfl, rfl⟩, trivial⟩ ⟨.inr rfl, trivial⟩
      · skip
        have hqf : ltI xs[(i + j) / 2] xs[a] = false := by simpa using hq
        have hp : ¬ ( (fun h => ltI (at_ xs h) (at_ xs a)) ((i + j) / 2) = true) := by simp only []; rw [at_eq hh, at_eq (show a < xs.length by omega), hqf] <;> simp
        refine .draw mixed [Ro.mk _ (Eff.mk (some (40, _)) []) [], Ro.mk _ (Eff.mk (some (41, _)) []) [], Ro.mk _ (Eff.mk (some (42, _)) []) [], Ro.mk _ (Eff.mk (some (43, _)) []) [0], Ro.mk _ (Eff.mk (some (44, _)) []) [0], Ro.mk _ (Eff.mk (some (45, _)) []) [], Ro.mk _ (Eff.mk (some (46, _)) []) [], Ro.mk _ (Eff.mk (some (47, _)) []) [0], Ro.mk _ (Eff.mk (some (48, _)) []) [0], Ro.mk _ (Eff.mk (some (49, _)) []) [], Ro.mk _ (Eff.mk (some (50, _)) []) []] rfl ⟨(fun _ _ => .move rfl rfl), (fun _ _ => .move rfl rfl), (fun _ _ => .move rfl rfl), (fun _ _ => .idxo rfl rfl rfl rfl rfl et25 (Int.natCast_nonneg _) (by omega)), (fun _ _ => .ldpm rfl rfl rfl rfl (flat_at it_len xs (hh)) (it_len _) tk35), (fun _ _ => .move rfl rfl), (fun _ _ => .move rfl rfl), (fun _ _ => .idxo rfl rfl rfl rfl rfl et25 (Int.natCast_nonneg _) (by omega)), (fun _ _ => .ldpm rfl rfl rfl rfl (flat_at it_len xs ((show a < xs.length by omega))) (it_len _) tk35), (fun _ _ => .callvf0 rfl rfl cf32 rfl ⟨trivial, trivial, trivial⟩ (before_pf xs[(i + j) / 2] xs[a])), (fun _ _ => .binv (.bool false) rfl rfl rfl rfl (by rw [cmpIt_dec, hqf])), trivial⟩ (by kernel_rfl) ?_
        refine .next ?_
        refine .cond rfl (fun h5 => absurd h5 (by decide)) (fun h5 => ?_)
        refine .region ?_
        refine .step rfl (.move rfl rfl) ?_
        refine .step rfl (.assign rfl rfl) ?_
        refine .nil ?_
        refine TE.blk ?_
        refine TE.setv 11 (.int .i64 (((i + j) / 2 : Nat) : Int)) rfl rfl ?_
        exact TE.round id (fun _ _ e => e) ((f - 1, i, (i + j) / 2)) ⟨i1, by show i ≤ (i + j) / 2; omega, by show (i + j) / 2 ≤ b; omega, by show (i + j) / 2 - i ≤ f - 1; omega, by show bsP (fun h => ltI (at_ xs h) (at_ xs a)) (f - 1) i ((i + j) / 2) = _; rw [← i5, bsP_step hij i4, if_neg hp]⟩ (by show (i + j) / 2 - i < j - i; omega) ⟨⟨rfl, rfl⟩, ⟨rfl, rfl⟩, ⟨rfl, rfl⟩, ⟨rfl, rfl⟩, ⟨rfl, rfl⟩, ⟨rfl, rfl⟩, ⟨rfl, rfl⟩, trivial⟩ ⟨.inr rfl, trivial⟩
    · skip
      have hij : ¬ i < j := by have q := of_decide_eq_false h2; (try dsimp only at q); omega
      have hr : bsP (fun h => ltI (at_ xs h) (at_ xs a)) (b - m) m b = i := by rw [← i5, bsP_end hij]
      have hA : symA xs a m b = bubF (i - 1 - a) xs a := by unfold symA; rw [hr]
      refine .exit ?_
      refine TE.pass ?_
      refine TE.pass ?_
      refine TE.here ?_
      refine .next ?_
      refine .seq ?_
      refine .seq ?_
      refine .region ?_
      refine .step rfl (.move rfl rfl) ?_
      refine .step rfl (.assign rfl rfl) ?_
      refine .nil ?_
      refine .next ?_
      refine .block ?_
      refine TC.loop (S := Nat × List It) (fun s => s.2.length = xs.length ∧ a ≤ s.1 ∧ bubF (i - 1 - s.1) s.2 s.1 = symA xs a m b) (fun s => i - 1 - s.1) (fun s => [(0, .ow 0 xs.length 64), (1, .d (.v (.int .i64 a))), (2, .d (.v (.int .i64 m))), (3, .d (.v (.int .i64 b))), (4, .d (.fn (.func 32) [] [])), (10, .d (.v (.int .i64 ((i : Nat) : Int)))), (13, .d (.v (.int .i64 ((s.1 : Nat) : Int))))]) (fun s => [(0, .mrow 0 35 64 ((s.2).flatMap It.dv))]) ((a, xs)) ⟨rfl, Nat.le_refl _, hA.symm⟩ ⟨⟨rfl, rfl⟩, ⟨rfl, rfl⟩, ⟨rfl, rfl⟩, ⟨rfl, rfl⟩, ⟨rfl, rfl⟩, ⟨rfl, rfl⟩, ⟨rfl, rfl⟩, trivial⟩ ⟨.inr rfl, trivial⟩ (fun s hI => ?_)
      obtain ⟨k, ys⟩ := s
      obtain ⟨k1, k2, k3⟩ := hI
      have k1 : ys.length = xs.length := k1
      have k2 : a ≤ k := k2
      have k3 : bubF (i - 1 - k) ys k = symA xs a m b := k3
      refine .seq ?_
      refine .seq ?_
      refine .region ?_
      refine .step rfl (.move rfl rfl) ?_
      refine .step rfl (.move rfl rfl) ?_
      refine .step rfl (.binv (.int .i64 ((i - 1 : Nat) : Int)) rfl rfl rfl rfl (congrArg _ (by (try dsimp only); rw [IntKind.wrap_i64]; omega))) ?_
      refine .step rfl (.bin rfl rfl rfl rfl) ?_
      refine .nil ?_
      refine .next ?_
      refine .cond rfl (fun h6 => ?_) (fun h6 => ?_)
      · skip
        have hij : k < i - 1 := by have q := of_decide_eq_true h6; (try dsimp only at q); omega
        have k4 : k + 1 < ys.length := by omega
        have k5 : k < ys.length := by omega
        refine .skip ?_
        refine .next ?_
        refine .seq ?_
        refine .block ?_
        refine .draw mixed [Ro.mk _ (Eff.mk (some (61, _)) []) [], Ro.mk _ (Eff.mk (some (62, _)) []) [], Ro.mk _ (Eff.mk (some (63, _)) []) [], Ro.mk _ (Eff.mk (some (64, _)) []) [], Ro.mk _ (Eff.mk (some (65, _)) []) [], Ro.mk _ (Eff.mk (some (66, _)) []) [], Ro.mk _ (Eff.mk (some (67, _)) []) [], Ro.mk _ (Eff.mk (some (68, _)) []) [], Ro.mk _ (Eff.mk (some (69, _)) []) [0], Ro.mk _ (Eff.mk (some (70, _)) []) [0], Ro.mk _ (Eff.mk (some (71, _)) []) [], Ro.mk _ (Eff.mk (some (72, _)) []) [], Ro.mk _ (Eff.mk (some (73, _)) []) [0], Ro.mk _ (Eff.mk (some (74, _)) []) [0], Ro.mk _ (Eff.mk (some (75, _)) []) [0], Ro.mk _ (Eff.mk none [(0, _)]) [0], Ro.mk _ (Eff.mk (some (76, _)) []) [0], Ro.mk _ (Eff.mk none [(0, _)]) [0]] rfl ⟨(fun _ _ => .move rfl rfl), (fun _ _ => .move rfl rfl), (fun _ _ => .move rfl rfl), (fun _ _ => .move rfl rfl), (fun _ _ => .binv (.int .i64 ((k + 1 : Nat) : Int)) rfl rfl rfl rfl (congrArg _ (by (try dsimp only); rw [IntKind.wrap_i64]; omega))), (fun _ _ => .move rfl rfl), (fun _ _ => .move rfl rfl), (fun _ _ => .binv (.int .i64 ((k + 1 : Nat) : Int)) rfl rfl rfl rfl (congrArg _ (by (try dsimp only); rw [IntKind.wrap_i64]; omega))), (fun _ _ => .idxo rfl rfl rfl rfl rfl et25 (Int.natCast_nonneg _) (by omega)), (fun _ _ => .ldpm rfl rfl rfl rfl (flat_at it_len ys (k4)) (it_len _) tk35), (fun _ _ => .move rfl rfl), (fun _ _ => .move rfl rfl), (fun _ _ => .idxo rfl rfl rfl rfl rfl et25 (Int.natCast_nonneg _) (by omega)), (fun _ _ => .ldpm rfl rfl rfl rfl (flat_at it_len ys (k5)) (it_len _) tk35), (fun _ _ => .idxo rfl rfl rfl rfl rfl et25 (Int.natCast_nonneg _) (by omega)), (fun _ _ => .storerm (xs := ys) (enc := It.dv) (ys[k + 1]) rfl rfl rfl rfl rfl rfl (fun _ => rfl) sz35 rfl (k5)), (fun _ _ => .idxo rfl rfl rfl rfl rfl et25 (Int.natCast_nonneg _) (by omega)), (fun _ _ => .storerm (xs := ys.set k ys[k + 1]) (enc := It.dv) (ys[k]) rfl rfl rfl rfl rfl rfl (fun _ => rfl) sz35 rfl (by rw [List.length_set]; exact k4)), trivial⟩ (by kernel_rfl) ?_
        refine TE.blk ?_
        refine .next ?_
        refine .region ?_
        refine .step rfl (.move rfl rfl) ?_
        refine .step rfl (.binv (.int .i64 ((k + 1 : Nat) : Int)) rfl rfl rfl rfl (congrArg _ (by (try dsimp only); rw [IntKind.wrap_i64]; omega))) ?_
        refine .step rfl (.assign rfl rfl) ?_
        refine .nil ?_
        refine TE.obj 0 (.mrow 0 35 64 ((swI ys k (k + 1)).flatMap It.dv)) rfl (by unfold swI; rw [at_eq k4, at_eq k5]) ?_
        refine TE.setv 13 (.int .i64 ((k + 1 : Nat) : Int)) rfl rfl ?_
        exact TE.round id (fun _ _ e => e) ((k + 1, swI ys k (k + 1))) ⟨by show (swI ys k (k + 1)).length = _; rw [swI_len]; exact k1, by show a ≤ k + 1; omega, by show bubF (i - 1 - (k + 1)) (swI ys k (k + 1)) (k + 1) = _; rw [← k3, show i - 1 - k = (i - 1 - (k + 1)) + 1 by omega]; rfl⟩ (by show i - 1 - (k + 1) < i - 1 - k; omega) ⟨⟨rfl, rfl⟩, ⟨rfl, rfl⟩, ⟨rfl, rfl⟩, ⟨rfl, rfl⟩, ⟨rfl, rfl⟩, ⟨rfl, rfl⟩, ⟨rfl, rfl⟩, trivial⟩ ⟨.inr rfl, trivial⟩
      · skip
        have hij : ¬ k < i - 1 := by have q := of_decide_eq_false h6; (try dsimp only at q); omega
        rw [show i - 1 - k = 0 by omega] at k3
        have e3 : ys = symA xs a m b := k3
        subst e3
        refine .exit ?_
        refine TE.pass ?_
        refine TE.pass ?_
        refine TE.here ?_
        refine .next ?_
        refine .ret ?_
        exact TE.retm0 0 rfl rfl rfl
  · skip
    have hm1 : ¬ m - a = 1 := by have q := of_decide_eq_false h1; omega
    refine .skip ?_
    refine .next ?_
    refine .seq ?_
    refine .seq ?_
    refine .region ?_
    refine .step rfl (.move rfl rfl) ?_
    refine .step rfl (.move rfl rfl) ?_
    refine .step rfl (.binv (.int .i64 ((b - m : Nat) : Int)) rfl rfl rfl rfl (congrArg _ (by (try dsimp only); rw [IntKind.wrap_i64]; omega))) ?_
    refine .step rfl (.bin rfl rfl rfl rfl) ?_
    refine .nil ?_
    refine .next ?_
    refine .cond rfl (fun h7 => ?_) (fun h7 => ?_)
    · skip
      have hb1 : b - m = 1 := by have q := of_decide_eq_true h7; omega
      have e : symM (n + 1) xs a m b = symB xs a m b := by unfold symM; rw [if_neg hm1, if_pos hb1]
      rw [e]
      refine .seq ?_
      refine .region ?_
      refine .step rfl (.move rfl rfl) ?_
      refine .step rfl (.assign rfl rfl) ?_
      refine .nil ?_
      refine .next ?_
      refine .seq ?_
      refine .region ?_
      refine .step rfl (.move rfl rfl) ?_
      refine .step rfl (.assign rfl rfl) ?_
      refine .nil ?_
      refine .next ?_
      refine .seq ?_
      refine .block ?_
      refine TC.loop (S := Nat × Nat × Nat) (fun s => a ≤ s.2.1 ∧ s.2.1 ≤ s.2.2 ∧ s.2.2 ≤ m ∧ s.2.2 - s.2.1 ≤ s.1 ∧ bsP (fun h => !ltI (at_ xs m) (at_ xs h)) s.1 s.2.1 s.2.2 = bsP (fun h => !ltI (at_ xs m) (at_ xs h)) (m - a) a m) (fun s => s.2.2 - s.2.1) (fun s => [(0, .ow 0 xs.length 64), (1, .d (.v (.int .i64 a))), (2, .d (.v (.int .i64 m))), (3, .d (.v (.int .i64 b))), (4, .d (.fn (.func 32) [] [])), (14, .d (.v (.int .i64 ((s.2.1 : Nat) : Int)))), (15, .d (.v (.int .i64 ((s.2.2 : Nat) : Int))))]) (fun s => [(0, .mrow 0 35 64 ((xs).flatMap It.dv))]) ((m - a, a, m)) ⟨Nat.le_refl _, by show a ≤ m; omega, Nat.le_refl _, Nat.le_refl _, rfl⟩ ⟨⟨rfl, rfl⟩, ⟨rfl, rfl⟩, ⟨rfl, rfl⟩, ⟨rfl, rfl⟩, ⟨rfl, rfl⟩, ⟨rfl, rfl⟩, ⟨rfl, rfl⟩, trivial⟩ ⟨.inr rfl, trivial⟩ (fun s hI => ?_)
      obtain ⟨f, i, j⟩ := s
      obtain ⟨i1, i2, i3, i4, i5⟩ := hI
      have i1 : a ≤ i := i1
      have i2 : i ≤ j := i2
      have i3 : j ≤ m := i3
      have i4 : j - i ≤ f := i4
      have i5 : bsP (fun h => !ltI (at_ xs m) (at_ xs h)) f i j = bsP (fun h => !ltI (at_ xs m) (at_ xs h)) (m - a) a m := i5
      refine .seq ?_
      refine .seq ?_
      refine .region ?_
      refine .step rfl (.move rfl rfl) ?_
      refine .step rfl (.move rfl rfl) ?_
      refine .step rfl (.bin rfl rfl rfl rfl) ?_
      refine .nil ?_
      refine .next ?_
      refine .cond rfl (fun h8 => ?_) (fun h8 => ?_)
      · skip
        have hij : i < j := by have q := of_decide_eq_true h8; (try dsimp only at q); omega
        have hh : (i + j) / 2 < xs.length := by omega
        refine .skip ?_
        refine .next ?_
        refine .block ?_
        refine .seq ?_
        refine .region ?_
        refine .step rfl (.move rfl rfl) ?_
        refine .step rfl (.move rfl rfl) ?_
        refine .step rfl (.binv (.int .i64 ((i + j : Nat) : Int)) rfl rfl rfl rfl (congrArg _ (by (try dsimp only); rw [IntKind.wrap_i64]; omega))) ?_
        refine .step rfl (.conviv (((i + j : Nat) : Int)) rfl rfl uk3 uk48 (wrap_natu _ (by omega))) ?_
        refine .step rfl (.shr (((((i + j) / 2 : Nat)) : Int)) rfl rfl rfl (by decide) (half_eq _)) ?_
        refine .step rfl (.conviv (((((i + j) / 2 : Nat)) : Int)) rfl rfl uk48 uk3 (wrap_nat _ (by omega))) ?_
        refine .step rfl (.assign rfl rfl) ?_
        refine .nil ?_
        refine .next ?_
        refine .seq ?_
        by_cases hq : ltI xs[m] xs[(i + j) / 2] = true
        · skip
          have hp : ¬ ( (fun h => !ltI (at_ xs m) (at_ xs h)) ((i + j) / 2) = true) := by simp only []; rw [at_eq (show m < xs.length by omega), at_eq hh, hq] <;> simp
          refine .draw mixed [Ro.mk _ (Eff.mk (some (92, _)) []) [], Ro.mk _ (Eff.mk (some (93, _)) []) [], Ro.mk _ (Eff.mk (some (94, _)) []) [], Ro.mk _ (Eff.mk (some (95, _)) []) [0], Ro.mk _ (Eff.mk (some (96, _)) []) [0], Ro.mk _ (Eff.mk (some (97, _)) []) [], Ro.mk _ (Eff.mk (some (98, _)) []) [], Ro.mk _ (Eff.mk (some (99, _)) []) [0], Ro.mk _ (Eff.mk (some (100, _)) []) [0], Ro.mk _ (Eff.mk (some (101, _)) []) [], Ro.mk _ (Eff.mk (some (102, _)) []) [], Ro.mk _ (Eff.mk (some (103, _)) []) []] rfl ⟨(fun _ _ => .move rfl rfl), (fun _ _ => .move rfl rfl), (fun _ _ => .move rfl rfl), (fun _ _ => .idxo rfl rfl rfl rfl rfl et25 (Int.natCast_nonneg _) (by omega)), (fun _ _ => .ldpm rfl rfl rfl rfl (flat_at it_len xs ((show m < xs.length by omega))) (it_len _) tk35), (fun _ _ => .move rfl rfl), (fun _ _ => .move rfl rfl), (fun _ _ => .idxo rfl rfl rfl rfl rfl et25 (Int.natCast_nonneg _) (by omega)), (fun _ _ => .ldpm rfl rfl rfl rfl (flat_at it_len xs (hh)) (it_len _) tk35), (fun _ _ => .callvf0 rfl rfl cf32 rfl ⟨trivial, trivial, trivial⟩ (before_pf xs[m] xs[(i + j) / 2])), (fun _ _ => .binv (.bool true) rfl rfl rfl rfl (by rw [cmpIt_dec, hq])), (fun _ _ => .un rfl rfl rfl), trivial⟩ (by kernel_rfl) ?_
          refine .next ?_
          refine .cond rfl (fun h10 => absurd h10 (by decide)) (fun h10 => ?_)
          refine .region ?_
          refine .step rfl (.move rfl rfl) ?_
          refine .step rfl (.assign rfl rfl) ?_
          refine .nil ?_
          refine TE.blk ?_
          refine TE.setv 15 (.int .i64 (((i + j) / 2 : Nat) : Int)) rfl rfl ?_
          exact TE.round id (fun _ _ e => e) ((f - 1, i, (i + j) / 2)) ⟨i1, by show i ≤ (i + j) / 2; omega, by show (i + j) / 2 ≤ m; omega, by show (i + j) / 2 - i ≤ f - 1; omega, by show bsP (fun h => !ltI (at_ xs m) (at_ xs h)) (f - 1) i ((i + j) / 2) = _; rw [← i5, bsP_step hij i4, if_neg hp]⟩ (by show (i + j) / 2 - i < j - i; omega) ⟨⟨rfl, rfl⟩, ⟨rfl, rfl⟩, ⟨rfl, rfl⟩, ⟨rfl, rfl⟩, ⟨rfl, rfl⟩, ⟨rfl, rfl⟩, ⟨rfl, rfl⟩, trivial⟩ ⟨.inr rfl, trivial⟩
        · skip
          have hqf : ltI xs[m] xs[(i + j) / 2] = false := by simpa using hq
          have hp :  (fun h => !ltI (at_ xs m) (at_ xs h)) ((i + j) / 2) = true := by simp only []; rw [at_eq (show m < xs.length by omega), at_eq hh, hqf] <;> simp
          refine .draw mixed [Ro.mk _ (Eff.mk (some (92, _)) []) [], Ro.mk _ (Eff.mk (some (93, _)) []) [], Ro.mk _ (Eff.mk (some (94, _)) []) [], Ro.mk _ (Eff.mk (some (95, _)) []) [0], Ro.mk _ (Eff.mk (some (96, _)) []) [0], Ro.mk _ (Eff.mk (some (97, _)) []) [], Ro.mk _ (Eff.mk (some (98, _)) []) [], Ro.mk _ (Eff.mk (some (99, _)) []) [0], Ro.mk _ (Eff.mk (some (100, _)) []) [0], Ro.mk _ (Eff.mk (some (101, _)) []) [], Ro.mk _ (Eff.mk (some (102, _)) []) [], Ro.mk _ (Eff.mk (some (103, _)) []) []] rfl ⟨(fun _ _ => .move rfl rfl), (fun _ _ => .move rfl rfl), (fun _ _ => .move rfl rfl), (fun _ _ => .idxo rfl rfl rfl rfl rfl et25 (Int.natCast_nonneg _) (by omega)), (fun _ _ => .ldpm rfl rfl rfl rfl (flat_at it_len xs ((show m < xs.length by omega))) (it_len _) tk35), (fun _ _ => .move rfl rfl), (fun _ _ => .move rfl rfl), (fun _ _ => .idxo rfl rfl rfl rfl rfl et25 (Int.natCast_nonneg _) (by omega)), (fun _ _ => .ldpm rfl rfl rfl rfl (flat_at it_len xs (hh)) (it_len _) tk35), (fun _ _ => .callvf0 rfl rfl cf32 rfl ⟨trivial, trivial, trivial⟩ (before_pf xs[m] xs[(i + j) / 2])), (fun _ _ => .binv (.bool false) rfl rfl rfl rfl (by rw [cmpIt_dec, hqf])), (fun _ _ => .un rfl rfl rfl), trivial⟩ (by kernel_rfl) ?_
          refine .next ?_
          refine .cond rfl (fun h11 => ?_) (fun h11 => absurd h11 (by decide))
          refine .region ?_
          refine .step rfl (.move rfl rfl) ?_
          refine .step rfl (.binv (.int .i64 (((i + j) / 2 + 1 : Nat) : Int)) rfl rfl rfl rfl (congrArg _ (by (try dsimp only); rw [IntKind.wrap_i64]; omega))) ?_
          refine .step rfl (.assign rfl rfl) ?_
          refine .nil ?_
          refine TE.blk ?_
          refine TE.setv 14 (.int .i64 (((i + j) / 2 + 1 : Nat) : Int)) rfl rfl ?_
          exact TE.round id (fun _ _ e => e) ((f - 1, (i + j) / 2 + 1, j)) ⟨by show a ≤ (i + j) / 2 + 1; omega, by show (i + j) / 2 + 1 ≤ j; omega, i3, by show j - ((i + j) / 2 + 1) ≤ f - 1; omega, by show bsP (fun h => !ltI (at_ xs m) (at_ xs h)) (f - 1) ((i + j) / 2 + 1) j = _; rw [← i5, bsP_step hij i4, if_pos hp]⟩ (by show j - ((i + j) / 2 + 1) < j - i; omega) ⟨⟨rfl, rfl⟩, ⟨rfl, rfl⟩, ⟨rfl, rfl⟩, ⟨rfl, rfl⟩, ⟨rfl, rfl⟩, ⟨rfl, rfl⟩, ⟨rfl, rfl⟩, trivial⟩ ⟨.inr rfl, trivial⟩
      · skip
        have hij : ¬ i < j := by have q := of_decide_eq_false h8; (try dsimp only at q); omega
        have hr : bsP (fun h => !ltI (at_ xs m) (at_ xs h)) (m - a) a m = i := by rw [← i5, bsP_end hij]
        have hB : symB xs a m b = bubB (m - i) xs m := by unfold symB; rw [hr]
        refine .exit ?_
        refine TE.pass ?_
        refine TE.pass ?_
        refine TE.here ?_
        refine .next ?_
        refine .seq ?_
        refine .seq ?_
        refine .region ?_
        refine .step rfl (.move rfl rfl) ?_
        refine .step rfl (.assign rfl rfl) ?_
        refine .nil ?_
        refine .next ?_
        refine .block ?_
        refine TC.loop (S := Nat × List It) (fun s => s.2.length = xs.length ∧ s.1 ≤ m ∧ bubB (s.1 - i) s.2 s.1 = symB xs a m b) (fun s => s.1 - i) (fun s => [(0, .ow 0 xs.length 64), (1, .d (.v (.int .i64 a))), (2, .d (.v (.int .i64 m))), (3, .d (.v (.int .i64 b))), (4, .d (.fn (.func 32) [] [])), (14, .d (.v (.int .i64 ((i : Nat) : Int)))), (17, .d (.v (.int .i64 ((s.1 : Nat) : Int))))]) (fun s => [(0, .mrow 0 35 64 ((s.2).flatMap It.dv))]) ((m, xs)) ⟨rfl, Nat.le_refl _, hB.symm⟩ ⟨⟨rfl, rfl⟩, ⟨rfl, rfl⟩, ⟨rfl, rfl⟩, ⟨rfl, rfl⟩, ⟨rfl, rfl⟩, ⟨rfl, rfl⟩, ⟨rfl, rfl⟩, trivial⟩ ⟨.inr rfl, trivial⟩ (fun s hI => ?_)
        obtain ⟨k, ys⟩ := s
        obtain ⟨k1, k2, k3⟩ := hI
        have k1 : ys.length = xs.length := k1
        have k2 : k ≤ m := k2
        have k3 : bubB (k - i) ys k = symB xs a m b := k3
        refine .seq ?_
        refine .seq ?_
        refine .region ?_
        refine .step rfl (.move rfl rfl) ?_
        refine .step rfl (.move rfl rfl) ?_
        refine .step rfl (.bin rfl rfl rfl rfl) ?_
        refine .nil ?_
        refine .next ?_
        refine .cond rfl (fun h12 => ?_) (fun h12 => ?_)
        · skip
          have hij : i < k := by have q := of_decide_eq_true h12; (try dsimp only at q); omega
          have k4 : k - 1 < ys.length := by omega
          have k5 : k < ys.length := by omega
          refine .skip ?_
          refine .next ?_
          refine .seq ?_
          refine .block ?_
          refine .draw mixed [Ro.mk _ (Eff.mk (some (113, _)) []) [], Ro.mk _ (Eff.mk (some (114, _)) []) [], Ro.mk _ (Eff.mk (some (115, _)) []) [], Ro.mk _ (Eff.mk (some (116, _)) []) [], Ro.mk _ (Eff.mk (some (117, _)) []) [], Ro.mk _ (Eff.mk (some (118, _)) []) [], Ro.mk _ (Eff.mk (some (119, _)) []) [], Ro.mk _ (Eff.mk (some (120, _)) []) [], Ro.mk _ (Eff.mk (some (121, _)) []) [0], Ro.mk _ (Eff.mk (some (122, _)) []) [0], Ro.mk _ (Eff.mk (some (123, _)) []) [], Ro.mk _ (Eff.mk (some (124, _)) []) [], Ro.mk _ (Eff.mk (some (125, _)) []) [0], Ro.mk _ (Eff.mk (some (126, _)) []) [0], Ro.mk _ (Eff.mk (some (127, _)) []) [0], Ro.mk _ (Eff.mk none [(0, _)]) [0], Ro.mk _ (Eff.mk (some (128, _)) []) [0], Ro.mk _ (Eff.mk none [(0, _)]) [0]] rfl ⟨(fun _ _ => .move rfl rfl), (fun _ _ => .move rfl rfl), (fun _ _ => .move rfl rfl), (fun _ _ => .move rfl rfl), (fun _ _ => .binv (.int .i64 ((k - 1 : Nat) : Int)) rfl rfl rfl rfl (congrArg _ (by (try dsimp only); rw [IntKind.wrap_i64]; omega))), (fun _ _ => .move rfl rfl), (fun _ _ => .move rfl rfl), (fun _ _ => .binv (.int .i64 ((k - 1 : Nat) : Int)) rfl rfl rfl rfl (congrArg _ (by (try dsimp only); rw [IntKind.wrap_i64]; omega))), (fun _ _ => .idxo rfl rfl rfl rfl rfl et25 (Int.natCast_nonneg _) (by omega)), (fun _ _ => .ldpm rfl rfl rfl rfl (flat_at it_len ys (k4)) (it_len _) tk35), (fun _ _ => .move rfl rfl), (fun _ _ => .move rfl rfl), (fun _ _ => .idxo rfl rfl rfl rfl rfl et25 (Int.natCast_nonneg _) (by omega)), (fun _ _ => .ldpm rfl rfl rfl rfl (flat_at it_len ys (k5)) (it_len _) tk35), (fun _ _ => .idxo rfl rfl rfl rfl rfl et25 (Int.natCast_nonneg _) (by omega)), (fun _ _ => .storerm (xs := ys) (enc := It.dv) (ys[k - 1]) rfl rfl rfl rfl rfl rfl (fun _ => rfl) sz35 rfl (k5)), (fun _ _ => .idxo rfl rfl rfl rfl rfl et25 (Int.natCast_nonneg _) (by omega)), (fun _ _ => .storerm (xs := ys.set k ys[k - 1]) (enc := It.dv) (ys[k]) rfl rfl rfl rfl rfl rfl (fun _ => rfl) sz35 rfl (by rw [List.length_set]; exact k4)), trivial⟩ (by kernel_rfl) ?_
          refine TE.blk ?_
          refine .next ?_
          refine .region ?_
          refine .step rfl (.move rfl rfl) ?_
          refine .step rfl (.binv (.int .i64 ((k - 1 : Nat) : Int)) rfl rfl rfl rfl (congrArg _ (by (try dsimp only); rw [IntKind.wrap_i64]; omega))) ?_
          refine .step rfl (.assign rfl rfl) ?_
          refine .nil ?_
          refine TE.obj 0 (.mrow 0 35 64 ((swI ys k (k - 1)).flatMap It.dv)) rfl (by unfold swI; rw [at_eq k4, at_eq k5]) ?_
          refine TE.setv 17 (.int .i64 ((k - 1 : Nat) : Int)) rfl rfl ?_
          exact TE.round id (fun _ _ e => e) ((k - 1, swI ys k (k - 1))) ⟨by show (swI ys k (k - 1)).length = _; rw [swI_len]; exact k1, by show k - 1 ≤ m; omega, by show bubB (k - 1 - i) (swI ys k (k - 1)) (k - 1) = _; rw [← k3, show k - i = (k - 1 - i) + 1 by omega]; rfl⟩ (by show k - 1 - i < k - i; omega) ⟨⟨rfl, rfl⟩, ⟨rfl, rfl⟩, ⟨rfl, rfl⟩, ⟨rfl, rfl⟩, ⟨rfl, rfl⟩, ⟨rfl, rfl⟩, ⟨rfl, rfl⟩, trivial⟩ ⟨.inr rfl, trivial⟩
        · skip
          have hij : ¬ i < k := by have q := of_decide_eq_false h12; (try dsimp only at q); omega
          rw [show k - i = 0 by omega] at k3
          have e3 : ys = symB xs a m b := k3
          subst e3
          refine .exit ?_
          refine TE.pass ?_
          refine TE.pass ?_
          refine TE.here ?_
          refine .next ?_
          refine .ret ?_
          exact TE.retm0 0 rfl rfl rfl
    · skip
      have hb1 : ¬ b - m = 1 := by have q := of_decide_eq_false h7; omega
      refine .skip ?_
      refine .next ?_
      refine .seq ?_
      refine .region ?_
      refine .step rfl (.move rfl rfl) ?_
      refine .step rfl (.move rfl rfl) ?_
      refine .step rfl (.binv (.int .i64 ((a + b : Nat) : Int)) rfl rfl rfl rfl (congrArg _ (by (try dsimp only); rw [IntKind.wrap_i64]; omega))) ?_
      refine .step rfl (.conviv (((a + b : Nat) : Int)) rfl rfl uk3 uk48 (wrap_natu _ (by omega))) ?_
      refine .step rfl (.shr (((((a + b) / 2 : Nat)) : Int)) rfl rfl rfl (by decide) (half_eq _)) ?_
      refine .step rfl (.conviv (((((a + b) / 2 : Nat)) : Int)) rfl rfl uk48 uk3 (wrap_nat _ (by omega))) ?_
      refine .step rfl (.assign rfl rfl) ?_
      refine .nil ?_
      refine .next ?_
      refine .seq ?_
      refine .region ?_
      refine .step rfl (.move rfl rfl) ?_
      refine .step rfl (.move rfl rfl) ?_
      refine .step rfl (.binv (.int .i64 (((a + b) / 2 + m : Nat) : Int)) rfl rfl rfl rfl (congrArg _ (by (try dsimp only); rw [IntKind.wrap_i64]; omega))) ?_
      refine .step rfl (.assign rfl rfl) ?_
      refine .nil ?_
      refine .next ?_
      refine .seq ?_
      refine .region ?_
      refine .step rfl (.assign rfl rfl) ?_
      refine .step rfl (.assign rfl rfl) ?_
      refine .nil ?_
      refine .next ?_
      refine .seq ?_
      refine .joinf [(0, .ow 0 xs.length 64), (1, .d (.v (.int .i64 a))), (2, .d (.v (.int .i64 m))), (3, .d (.v (.int .i64 b))), (4, .d (.fn (.func 32) [] [])), (18, .f (.v (.int .i64 ((((a + b) / 2) : Nat) : Int)))), (19, .f (.v (.int .i64 (((a + b) / 2 + m : Nat) : Int)))), (20, .d (.v (.int .i64 ((symS a m b : Nat) : Int)))), (21, .d (.v (.int .i64 ((symR a m b : Nat) : Int))))] [(0, .mrow 0 35 64 ((xs).flatMap It.dv))] (¬ m - a = 1 ∧ ¬ b - m = 1) (fun hphi => ?_) ?_
      · skip
        obtain ⟨hm1, hb1⟩ := hphi
        have hSR := symSR a m b
        have hCB := symC_bd xs ham hmb
        have hxl := symX_len xs a m b
        refine .seq ?_
        refine .region ?_
        refine .step rfl (.move rfl rfl) ?_
        refine .step rfl (.binv (.int .i64 (((a + b) / 2 + m - 1 : Nat) : Int)) rfl rfl rfl rfl (congrArg _ (by (try dsimp only); rw [IntKind.wrap_i64]; omega))) ?_
        refine .step rfl (.assign rfl rfl) ?_
        refine .nil ?_
        refine .next ?_
        refine .seq ?_
        refine .block ?_
        refine TC.loop (S := Nat × Nat × Nat) (fun s => (symS a m b) ≤ s.2.1 ∧ s.2.1 ≤ s.2.2 ∧ s.2.2 ≤ (symR a m b) ∧ s.2.2 - s.2.1 ≤ s.1 ∧ bsP (fun c => !ltI (at_ xs ((a + b) / 2 + m - 1 - c)) (at_ xs c)) s.1 s.2.1 s.2.2 = bsP (fun c => !ltI (at_ xs ((a + b) / 2 + m - 1 - c)) (at_ xs c)) ((symR a m b) - (symS a m b)) (symS a m b) (symR a m b)) (fun s => s.2.2 - s.2.1) (fun s => [(0, .ow 0 xs.length 64), (1, .d (.v (.int .i64 a))), (2, .d (.v (.int .i64 m))), (3, .d (.v (.int .i64 b))), (4, .d (.fn (.func 32) [] [])), (20, .d (.v (.int .i64 ((s.2.1 : Nat) : Int)))), (21, .d (.v (.int .i64 ((s.2.2 : Nat) : Int)))), (18, .f (.v (.int .i64 ((((a + b) / 2) : Nat) : Int)))), (19, .f (.v (.int .i64 (((a + b) / 2 + m : Nat) : Int)))), (22, .f (.v (.int .i64 (((a + b) / 2 + m - 1 : Nat) : Int))))]) (fun s => [(0, .mrow 0 35 64 ((xs).flatMap It.dv))]) (((symR a m b) - (symS a m b), (symS a m b), (symR a m b))) ⟨Nat.le_refl _, by show (symS a m b) ≤ (symR a m b); omega, Nat.le_refl _, Nat.le_refl _, rfl⟩ ⟨⟨rfl, rfl⟩, ⟨rfl, rfl⟩, ⟨rfl, rfl⟩, ⟨rfl, rfl⟩, ⟨rfl, rfl⟩, ⟨rfl, rfl⟩, ⟨rfl, rfl⟩, ⟨rfl, rfl⟩, ⟨rfl, rfl⟩, ⟨rfl, rfl⟩, trivial⟩ ⟨.inr rfl, trivial⟩ (fun s hI => ?_)
        obtain ⟨f, i, j⟩ := s
        obtain ⟨i1, i2, i3, i4, i5⟩ := hI
        have i1 : (symS a m b) ≤ i := i1
        have i2 : i ≤ j := i2
        have i3 : j ≤ (symR a m b) := i3
        have i4 : j - i ≤ f := i4
        have i5 : bsP (fun c => !ltI (at_ xs ((a + b) / 2 + m - 1 - c)) (at_ xs c)) f i j = bsP (fun c => !ltI (at_ xs ((a + b) / 2 + m - 1 - c)) (at_ xs c)) ((symR a m b) - (symS a m b)) (symS a m b) (symR a m b) := i5
        refine .seq ?_
        refine .seq ?_
        refine .region ?_
        refine .step rfl (.move rfl rfl) ?_
        refine .step rfl (.move rfl rfl) ?_
        refine .step rfl (.bin rfl rfl rfl rfl) ?_
        refine .nil ?_
        refine .next ?_
        refine .cond rfl (fun h13 => ?_) (fun h13 => ?_)
        · skip
          have hij : i < j := by have q := of_decide_eq_true h13; (try dsimp only at q); omega
          have hh : (i + j) / 2 < xs.length := by omega
          have hp2 : ((a + b) / 2 + m - 1 - (i + j) / 2) < xs.length := by omega
          refine .skip ?_
          refine .next ?_
          refine .block ?_
          refine .seq ?_
          refine .region ?_
          refine .step rfl (.move rfl rfl) ?_
          refine .step rfl (.move rfl rfl) ?_
          refine .step rfl (.binv (.int .i64 ((i + j : Nat) : Int)) rfl rfl rfl rfl (congrArg _ (by (try dsimp only); rw [IntKind.wrap_i64]; omega))) ?_
          refine .step rfl (.conviv (((i + j : Nat) : Int)) rfl rfl uk3 uk48 (wrap_natu _ (by omega))) ?_
          refine .step rfl (.shr (((((i + j) / 2 : Nat)) : Int)) rfl rfl rfl (by decide) (half_eq _)) ?_
          refine .step rfl (.conviv (((((i + j) / 2 : Nat)) : Int)) rfl rfl uk48 uk3 (wrap_nat _ (by omega))) ?_
          refine .step rfl (.assign rfl rfl) ?_
          refine .nil ?_
          refine .next ?_
          refine .seq ?_
          by_cases hq : ltI xs[((a + b) / 2 + m - 1 - (i + j) / 2)] xs[(i + j) / 2] = true
          · skip
            have hp : ¬ ( (fun c => !ltI (at_ xs ((a + b) / 2 + m - 1 - c)) (at_ xs c)) ((i + j) / 2) = true) := by simp only []; rw [at_eq hp2, at_eq hh, hq] <;> simp
            refine .draw mixed [Ro.mk _ (Eff.mk (some (158, _)) []) [], Ro.mk _ (Eff.mk (some (159, _)) []) [], Ro.mk _ (Eff.mk (some (160, _)) []) [], Ro.mk _ (Eff.mk (some (161, _)) []) [], Ro.mk _ (Eff.mk (some (162, _)) []) [], Ro.mk _ (Eff.mk (some (163, _)) []) [0], Ro.mk _ (Eff.mk (some (164, _)) []) [0], Ro.mk _ (Eff.mk (some (165, _)) []) [], Ro.mk _ (Eff.mk (some (166, _)) []) [], Ro.mk _ (Eff.mk (some (167, _)) []) [0], Ro.mk _ (Eff.mk (some (168, _)) []) [0], Ro.mk _ (Eff.mk (some (169, _)) []) [], Ro.mk _ (Eff.mk (some (170, _)) []) [], Ro.mk _ (Eff.mk (some (171, _)) []) []] rfl ⟨(fun _ _ => .move rfl rfl), (fun _ _ => .move rfl rfl), (fun _ _ => .move rfl rfl), (fun _ _ => .move rfl rfl), (fun _ _ => .binv (.int .i64 (((a + b) / 2 + m - 1 - (i + j) / 2 : Nat) : Int)) rfl rfl rfl rfl (congrArg _ (by (try dsimp only); rw [IntKind.wrap_i64]; omega))), (fun _ _ => .idxo rfl rfl rfl rfl rfl et25 (Int.natCast_nonneg _) (by omega)), (fun _ _ => .ldpm rfl rfl rfl rfl (flat_at it_len xs (hp2)) (it_len _) tk35), (fun _ _ => .move rfl rfl), (fun _ _ => .move rfl rfl), (fun _ _ => .idxo rfl rfl rfl rfl rfl et25 (Int.natCast_nonneg _) (by omega)), (fun _ _ => .ldpm rfl rfl rfl rfl (flat_at it_len xs (hh)) (it_len _) tk35), (fun _ _ => .callvf0 rfl rfl cf32 rfl ⟨trivial, trivial, trivial⟩ (before_pf xs[((a + b) / 2 + m - 1 - (i + j) / 2)] xs[(i + j) / 2])), (fun _ _ => .binv (.bool true) rfl rfl rfl rfl (by rw [cmpIt_dec, hq])), (fun _ _ => .un rfl rfl rfl), trivial⟩ (by kernel_rfl) ?_
            refine .next ?_
            refine .cond rfl (fun h15 => absurd h15 (by decide)) (fun h15 => ?_)
            refine .region ?_
            refine .step rfl (.move rfl rfl) ?_
            refine .step rfl (.assign rfl rfl) ?_
            refine .nil ?_
            refine TE.blk ?_
            refine TE.setv 21 (.int .i64 (((i + j) / 2 : Nat) : Int)) rfl rfl ?_
            exact TE.round id (fun _ _ e => e) ((f - 1, i, (i + j) / 2)) ⟨i1, by show i ≤ (i + j) / 2; omega, by show (i + j) / 2 ≤ (symR a m b); omega, by show (i + j) / 2 - i ≤ f - 1; omega, by show bsP (fun c => !ltI (at_ xs ((a + b) / 2 + m - 1 - c)) (at_ xs c)) (f - 1) i ((i + j) / 2) = _; rw [← i5, bsP_step hij i4, if_neg hp]⟩ (by show (i + j) / 2 - i < j - i; omega) ⟨⟨rfl, rfl⟩, ⟨rfl, rfl⟩, ⟨rfl, rfl⟩, ⟨rfl, rfl⟩, ⟨rfl, rfl⟩, ⟨rfl, rfl⟩, ⟨rfl, rfl⟩, ⟨rfl, rfl⟩, ⟨rfl, rfl⟩, ⟨rfl, rfl⟩, trivial⟩ ⟨.inr rfl, trivial⟩
          · skip
            have hqf : ltI xs[((a + b) / 2 + m - 1 - (i + j) / 2)] xs[(i + j) / 2] = false := by simpa using hq
            have hp :  (fun c => !ltI (at_ xs ((a + b) / 2 + m - 1 - c)) (at_ xs c)) ((i + j) / 2) = true := by simp only []; rw [at_eq hp2, at_eq hh, hqf] <;> simp
            refine .draw mixed [Ro.mk _ (Eff.mk (some (158, _)) []) [], Ro.mk _ (Eff.mk (some (159, _)) []) [], Ro.mk _ (Eff.mk (some (160, _)) []) [], Ro.mk _ (Eff.mk (some (161, _)) []) [], Ro.mk _ (Eff.mk (some (162, _)) []) [], Ro.mk _ (Eff.mk (some (163, _)) []) [0], Ro.mk _ (Eff.mk (some (164, _)) []) [0], Ro.mk _ (Eff.mk (some (165, _)) []) [], Ro.mk _ (Eff.mk (some (166, _)) []) [], Ro.mk _ (Eff.mk (some (167, _)) []) [0], Ro.mk _ (Eff.mk (some (168, _)) []) [0], Ro.mk _ (Eff.mk (some (169, _)) []) [], Ro.mk _ (Eff.mk (some (170, _)) []) [], Ro.mk _ (Eff.mk (some (171, _)) []) []] rfl ⟨(fun _ _ => .move rfl rfl), (fun _ _ => .move rfl rfl), (fun _ _ => .move rfl rfl), (fun _ _ => .move rfl rfl), (fun _ _ => .binv (.int .i64 (((a + b) / 2 + m - 1 - (i + j) / 2 : Nat) : Int)) rfl rfl rfl rfl (congrArg _ (by (try dsimp only); rw [IntKind.wrap_i64]; omega))), (fun _ _ => .idxo rfl rfl rfl rfl rfl et25 (Int.natCast_nonneg _) (by omega)), (fun _ _ => .ldpm rfl rfl rfl rfl (flat_at it_len xs (hp2)) (it_len _) tk35), (fun _ _ => .move rfl rfl), (fun _ _ => .move rfl rfl), (fun _ _ => .idxo rfl rfl rfl rfl rfl et25 (Int.natCast_nonneg _) (by omega)), (fun _ _ => .ldpm rfl rfl rfl rfl (flat_at it_len xs (hh)) (it_len _) tk35), (fun _ _ => .callvf0 rfl rfl cf32 rfl ⟨trivial, trivial, trivial⟩ (before_pf xs[((a + b) / 2 + m - 1 - (i + j) / 2)] xs[(i + j) / 2])), (fun _ _ => .binv (.bool false) rfl rfl rfl rfl (by rw [cmpIt_dec, hqf])), (fun _ _ => .un rfl rfl rfl), trivial⟩ (by kernel_rfl) ?_
            refine .next ?_
            refine .cond rfl (fun h16 => ?_) (fun h16 => absurd h16 (by decide))
            refine .region ?_
            refine .step rfl (.move rfl rfl) ?_
            refine .step rfl (.binv (.int .i64 (((i + j) / 2 + 1 : Nat) : Int)) rfl rfl rfl rfl (congrArg _ (by (try dsimp only); rw [IntKind.wrap_i64]; omega))) ?_
            refine .step rfl (.assign rfl rfl) ?_
            refine .nil ?_
            refine TE.blk ?_
            refine TE.setv 20 (.int .i64 (((i + j) / 2 + 1 : Nat) : Int)) rfl rfl ?_
            exact TE.round id (fun _ _ e => e) ((f - 1, (i + j) / 2 + 1, j)) ⟨by show (symS a m b) ≤ (i + j) / 2 + 1; omega, by show (i + j) / 2 + 1 ≤ j; omega, i3, by show j - ((i + j) / 2 + 1) ≤ f - 1; omega, by show bsP (fun c => !ltI (at_ xs ((a + b) / 2 + m - 1 - c)) (at_ xs c)) (f - 1) ((i + j) / 2 + 1) j = _; rw [← i5, bsP_step hij i4, if_pos hp]⟩ (by show j - ((i + j) / 2 + 1) < j - i; omega) ⟨⟨rfl, rfl⟩, ⟨rfl, rfl⟩, ⟨rfl, rfl⟩, ⟨rfl, rfl⟩, ⟨rfl, rfl⟩, ⟨rfl, rfl⟩, ⟨rfl, rfl⟩, ⟨rfl, rfl⟩, ⟨rfl, rfl⟩, ⟨rfl, rfl⟩, trivial⟩ ⟨.inr rfl, trivial⟩
        · skip
          have hij : ¬ i < j := by have q := of_decide_eq_false h13; (try dsimp only at q); omega
          have hC : symC xs a m b = i := by unfold symC; rw [← i5, bsP_end hij]
          subst hC
          refine .exit ?_
          refine TE.pass ?_
          refine TE.pass ?_
          refine TE.here ?_
          refine .next ?_
          refine .seq ?_
          refine .region ?_
          refine .step rfl (.move rfl rfl) ?_
          refine .step rfl (.move rfl rfl) ?_
          refine .step rfl (.binv (.int .i64 ((((a + b) / 2 + m - symC xs a m b) : Nat) : Int)) rfl rfl rfl rfl (congrArg _ (by (try dsimp only); rw [IntKind.wrap_i64]; omega))) ?_
          refine .step rfl (.assign rfl rfl) ?_
          refine .nil ?_
          refine .next ?_
          refine .seq ?_
          refine .joinf [(0, .ow 0 xs.length 64), (1, .d (.v (.int .i64 a))), (2, .d (.v (.int .i64 m))), (3, .d (.v (.int .i64 b))), (4, .d (.fn (.func 32) [] [])), (18, .f (.v (.int .i64 ((((a + b) / 2) : Nat) : Int)))), (20, .d (.v (.int .i64 (((symC xs a m b) : Nat) : Int)))), (24, .f (.v (.int .i64 ((((a + b) / 2 + m - symC xs a m b) : Nat) : Int))))] [(0, .mrow 0 35 64 (((symX xs a m b)).flatMap It.dv))] (¬ m - a = 1 ∧ ¬ b - m = 1) (fun hphi => ?_) ?_
          · skip
            obtain ⟨hm1, hb1⟩ := hphi
            have hSR := symSR a m b
            have hCB := symC_bd xs ham hmb
            have hxl := symX_len xs a m b
            refine .seq ?_
            refine .joinf [(0, .ow 0 xs.length 64), (1, .d (.v (.int .i64 a))), (2, .d (.v (.int .i64 m))), (3, .d (.v (.int .i64 b))), (4, .d (.fn (.func 32) [] [])), (18, .f (.v (.int .i64 ((((a + b) / 2) : Nat) : Int)))), (24, .f (.v (.int .i64 ((((a + b) / 2 + m - symC xs a m b) : Nat) : Int))))] [(0, .mrow 0 35 64 (((if a < symC xs a m b ∧ symC xs a m b < (a + b) / 2 then symM n (symX xs a m b) a (symC xs a m b) ((a + b) / 2) else symX xs a m b)).flatMap It.dv))] (¬ m - a = 1 ∧ ¬ b - m = 1) (fun hphi => ?_) ?_
            · skip
              obtain ⟨hm1, hb1⟩ := hphi
              have hSR := symSR a m b
              have hCB := symC_bd xs ham hmb
              have hxl := symX_len xs a m b
              have e : symM (n + 1) xs a m b = if ((a + b) / 2) < ((a + b) / 2 + m - symC xs a m b) ∧ ((a + b) / 2 + m - symC xs a m b) < b then symM n (if a < symC xs a m b ∧ symC xs a m b < (a + b) / 2 then symM n (symX xs a m b) a (symC xs a m b) ((a + b) / 2) else symX xs a m b) ((a + b) / 2) ((a + b) / 2 + m - symC xs a m b) b else (if a < symC xs a m b ∧ symC xs a m b < (a + b) / 2 then symM n (symX xs a m b) a (symC xs a m b) ((a + b) / 2) else symX xs a m b) := by conv => lhs; unfold symM; rw [if_neg hm1, if_neg hb1]
              have hzl0 : ((if a < symC xs a m b ∧ symC xs a m b < (a + b) / 2 then symM n (symX xs a m b) a (symC xs a m b) ((a + b) / 2) else symX xs a m b)).length = xs.length := by by_cases q : a < symC xs a m b ∧ symC xs a m b < (a + b) / 2; all_goals simp only [q, if_true, if_false, and_self, symM_len, hxl]
              rw [e]
              generalize (if a < symC xs a m b ∧ symC xs a m b < (a + b) / 2 then symM n (symX xs a m b) a (symC xs a m b) ((a + b) / 2) else symX xs a m b) = zs at hzl0 ⊢
              refine .seq ?_
              by_cases hc1 : ((a + b) / 2) < ((a + b) / 2 + m - symC xs a m b)
              · skip
                by_cases hc2 : ((a + b) / 2 + m - symC xs a m b) < b
                · skip
                  rw [if_pos ⟨hc1, hc2⟩]
                  refine .region ?_
                  refine .step rfl (.move rfl rfl) ?_
                  refine .step rfl (.move rfl rfl) ?_
                  refine .step rfl (.binv (.bool true) rfl rfl rfl rfl (congrArg Value.bool (decide_eq_true (by (try dsimp only); omega)))) ?_
                  refine .step rfl (.move rfl rfl) ?_
                  refine .go 209 rfl rfl rfl rfl (.move rfl rfl) ?_
                  refine .go 209 rfl rfl rfl rfl (.move rfl rfl) ?_
                  refine .go 209 rfl rfl rfl rfl (.binv (.bool true) rfl rfl rfl rfl (congrArg Value.bool (decide_eq_true (by (try dsimp only); omega)))) ?_
                  refine .step rfl (.pick rfl rfl rfl) ?_
                  refine .nil ?_
                  refine .next ?_
                  refine .cond rfl (fun h19 => ?_) (fun h19 => absurd h19 (by decide))
                  refine .region ?_
                  refine .step rfl (.move rfl rfl) ?_
                  refine .step rfl (.move rfl rfl) ?_
                  refine .step rfl (.move rfl rfl) ?_
                  refine .step rfl (.move rfl rfl) ?_
                  refine .step rfl (.move rfl rfl) ?_
                  refine .step rfl (.callm (o' := .mrow 0 35 64 ((symM n zs ((a + b) / 2) ((a + b) / 2 + m - symC xs a m b) b).flatMap It.dv)) 0 rfl cf53 rfl rfl rfl rfl (by simp) rfl rfl ((hzl0) ▸ ih (zs) (((a + b) / 2)) (((a + b) / 2 + m - symC xs a m b)) (b) (by omega) (by omega) (by rw [hzl0]; omega) (by rw [hzl0]; omega) (by omega))) ?_
                  refine .nil ?_
                  exact TE.retm0 0 rfl rfl rfl
                · skip
                  rw [if_neg (fun q => hc2 q.2)]
                  refine .region ?_
                  refine .step rfl (.move rfl rfl) ?_
                  refine .step rfl (.move rfl rfl) ?_
                  refine .step rfl (.binv (.bool true) rfl rfl rfl rfl (congrArg Value.bool (decide_eq_true (by (try dsimp only); omega)))) ?_
                  refine .step rfl (.move rfl rfl) ?_
                  refine .go 209 rfl rfl rfl rfl (.move rfl rfl) ?_
                  refine .go 209 rfl rfl rfl rfl (.move rfl rfl) ?_
                  refine .go 209 rfl rfl rfl rfl (.binv (.bool false) rfl rfl rfl rfl (congrArg Value.bool (decide_eq_false (by (try dsimp only); omega)))) ?_
                  refine .step rfl (.pick rfl rfl rfl) ?_
                  refine .nil ?_
                  refine .next ?_
                  refine .cond rfl (fun h20 => absurd h20 (by decide)) (fun h20 => ?_)
                  refine .skip ?_
                  exact TE.retm0 0 rfl rfl rfl
              · skip
                rw [if_neg (fun q => hc1 q.1)]
                refine .region ?_
                refine .step rfl (.move rfl rfl) ?_
                refine .step rfl (.move rfl rfl) ?_
                refine .step rfl (.binv (.bool false) rfl rfl rfl rfl (congrArg Value.bool (decide_eq_false (by (try dsimp only); omega)))) ?_
                refine .step rfl (.move rfl rfl) ?_
                refine .no 209 rfl rfl rfl rfl rfl rfl rfl ?_
                refine .no 209 rfl rfl rfl rfl rfl rfl rfl ?_
                refine .no 209 rfl rfl rfl rfl rfl rfl rfl ?_
                refine .step rfl (.pick rfl rfl rfl) ?_
                refine .nil ?_
                refine .next ?_
                refine .cond rfl (fun h21 => absurd h21 (by decide)) (fun h21 => ?_)
                refine .skip ?_
                exact TE.retm0 0 rfl rfl rfl
            · skip
              refine .seq ?_
              by_cases hc1 : a < (symC xs a m b)
              · skip
                by_cases hc2 : (symC xs a m b) < ((a + b) / 2)
                · skip
                  refine .region ?_
                  refine .step rfl (.move rfl rfl) ?_
                  refine .step rfl (.move rfl rfl) ?_
                  refine .step rfl (.binv (.bool true) rfl rfl rfl rfl (congrArg Value.bool (decide_eq_true (by (try dsimp only); omega)))) ?_
                  refine .step rfl (.move rfl rfl) ?_
                  refine .go 195 rfl rfl rfl rfl (.move rfl rfl) ?_
                  refine .go 195 rfl rfl rfl rfl (.move rfl rfl) ?_
                  refine .go 195 rfl rfl rfl rfl (.binv (.bool true) rfl rfl rfl rfl (congrArg Value.bool (decide_eq_true (by (try dsimp only); omega)))) ?_
                  refine .step rfl (.pick rfl rfl rfl) ?_
                  refine .nil ?_
                  refine .next ?_
                  refine .cond rfl (fun h24 => ?_) (fun h24 => absurd h24 (by decide))
                  refine .region ?_
                  refine .step rfl (.move rfl rfl) ?_
                  refine .step rfl (.move rfl rfl) ?_
                  refine .step rfl (.move rfl rfl) ?_
                  refine .step rfl (.move rfl rfl) ?_
                  refine .step rfl (.move rfl rfl) ?_
                  refine .step rfl (.callm (o' := .mrow 0 35 64 ((symM n (symX xs a m b) a (symC xs a m b) ((a + b) / 2)).flatMap It.dv)) 0 rfl cf53 rfl rfl rfl rfl (by simp) rfl rfl ((symX_len xs a m b) ▸ ih ((symX xs a m b)) (a) ((symC xs a m b)) (((a + b) / 2)) (by omega) (by omega) (by rw [symX_len xs a m b]; omega) (by rw [symX_len xs a m b]; omega) (by omega))) ?_
                  refine .nil ?_
                  refine TE.obj 0 (.mrow 0 35 64 (((if a < symC xs a m b ∧ symC xs a m b < (a + b) / 2 then symM n (symX xs a m b) a (symC xs a m b) ((a + b) / 2) else symX xs a m b)).flatMap It.dv)) rfl (by rw [if_pos ⟨hc1, hc2⟩]) ?_
                  exact TE.joinf (⟨hm1, hb1⟩) ⟨⟨rfl, rfl⟩, ⟨rfl, rfl⟩, ⟨rfl, rfl⟩, ⟨rfl, rfl⟩, ⟨rfl, rfl⟩, ⟨rfl, rfl⟩, ⟨rfl, rfl⟩, trivial⟩ ⟨.inr rfl, trivial⟩
                · skip
                  refine .region ?_
                  refine .step rfl (.move rfl rfl) ?_
                  refine .step rfl (.move rfl rfl) ?_
                  refine .step rfl (.binv (.bool true) rfl rfl rfl rfl (congrArg Value.bool (decide_eq_true (by (try dsimp only); omega)))) ?_
                  refine .step rfl (.move rfl rfl) ?_
                  refine .go 195 rfl rfl rfl rfl (.move rfl rfl) ?_
                  refine .go 195 rfl rfl rfl rfl (.move rfl rfl) ?_
                  refine .go 195 rfl rfl rfl rfl (.binv (.bool false) rfl rfl rfl rfl (congrArg Value.bool (decide_eq_false (by (try dsimp only); omega)))) ?_
                  refine .step rfl (.pick rfl rfl rfl) ?_
                  refine .nil ?_
                  refine .next ?_
                  refine .cond rfl (fun h25 => absurd h25 (by decide)) (fun h25 => ?_)
                  refine .skip ?_
                  refine TE.obj 0 (.mrow 0 35 64 (((if a < symC xs a m b ∧ symC xs a m b < (a + b) / 2 then symM n (symX xs a m b) a (symC xs a m b) ((a + b) / 2) else symX xs a m b)).flatMap It.dv)) rfl (by rw [if_neg (fun q => hc2 q.2)]) ?_
                  exact TE.joinf (⟨hm1, hb1⟩) ⟨⟨rfl, rfl⟩, ⟨rfl, rfl⟩, ⟨rfl, rfl⟩, ⟨rfl, rfl⟩, ⟨rfl, rfl⟩, ⟨rfl, rfl⟩, ⟨rfl, rfl⟩, trivial⟩ ⟨.inr rfl, trivial⟩
              · skip
                refine .region ?_
                refine .step rfl (.move rfl rfl) ?_
                refine .step rfl (.move rfl rfl) ?_
                refine .step rfl (.binv (.bool false) rfl rfl rfl rfl (congrArg Value.bool (decide_eq_false (by (try dsimp only); omega)))) ?_
                refine .step rfl (.move rfl rfl) ?_
                refine .no 195 rfl rfl rfl rfl rfl rfl rfl ?_
                refine .no 195 rfl rfl rfl rfl rfl rfl rfl ?_
                refine .no 195 rfl rfl rfl rfl rfl rfl rfl ?_
                refine .step rfl (.pick rfl rfl rfl) ?_
                refine .nil ?_
                refine .next ?_
                refine .cond rfl (fun h26 => absurd h26 (by decide)) (fun h26 => ?_)
                refine .skip ?_
                refine TE.obj 0 (.mrow 0 35 64 (((if a < symC xs a m b ∧ symC xs a m b < (a + b) / 2 then symM n (symX xs a m b) a (symC xs a m b) ((a + b) / 2) else symX xs a m b)).flatMap It.dv)) rfl (by rw [if_neg (fun q => hc1 q.1)]) ?_
                exact TE.joinf (⟨hm1, hb1⟩) ⟨⟨rfl, rfl⟩, ⟨rfl, rfl⟩, ⟨rfl, rfl⟩, ⟨rfl, rfl⟩, ⟨rfl, rfl⟩, ⟨rfl, rfl⟩, ⟨rfl, rfl⟩, trivial⟩ ⟨.inr rfl, trivial⟩
          · skip
            refine .seq ?_
            by_cases hc1 : (symC xs a m b) < m
            · skip
              by_cases hc2 : m < ((a + b) / 2 + m - symC xs a m b)
              · skip
                refine .region ?_
                refine .step rfl (.move rfl rfl) ?_
                refine .step rfl (.move rfl rfl) ?_
                refine .step rfl (.binv (.bool true) rfl rfl rfl rfl (congrArg Value.bool (decide_eq_true (by (try dsimp only); omega)))) ?_
                refine .step rfl (.move rfl rfl) ?_
                refine .go 181 rfl rfl rfl rfl (.move rfl rfl) ?_
                refine .go 181 rfl rfl rfl rfl (.move rfl rfl) ?_
                refine .go 181 rfl rfl rfl rfl (.binv (.bool true) rfl rfl rfl rfl (congrArg Value.bool (decide_eq_true (by (try dsimp only); omega)))) ?_
                refine .step rfl (.pick rfl rfl rfl) ?_
                refine .nil ?_
                refine .next ?_
                refine .cond rfl (fun h29 => ?_) (fun h29 => absurd h29 (by decide))
                refine .region ?_
                refine .step rfl (.move rfl rfl) ?_
                refine .step rfl (.move rfl rfl) ?_
                refine .step rfl (.move rfl rfl) ?_
                refine .step rfl (.move rfl rfl) ?_
                refine .step rfl (.move rfl rfl) ?_
                refine .step rfl (.callm (o' := .mrow 0 35 64 ((rotI xs (symC xs a m b) m ((a + b) / 2 + m - symC xs a m b)).flatMap It.dv)) 0 rfl cf65 rfl rfl rfl rfl (by simp) rfl rfl (rot_pm xs (symC xs a m b) m ((a + b) / 2 + m - symC xs a m b) (by omega) (by omega) (by omega) (by omega))) ?_
                refine .nil ?_
                refine TE.obj 0 (.mrow 0 35 64 (((symX xs a m b)).flatMap It.dv)) rfl (by unfold symX; rw [if_pos ⟨hc1, hc2⟩]) ?_
                exact TE.joinf (⟨hm1, hb1⟩) ⟨⟨rfl, rfl⟩, ⟨rfl, rfl⟩, ⟨rfl, rfl⟩, ⟨rfl, rfl⟩, ⟨rfl, rfl⟩, ⟨rfl, rfl⟩, ⟨rfl, rfl⟩, ⟨rfl, rfl⟩, trivial⟩ ⟨.inr rfl, trivial⟩
              · skip
                refine .region ?_
                refine .step rfl (.move rfl rfl) ?_
                refine .step rfl (.move rfl rfl) ?_
                refine .step rfl (.binv (.bool true) rfl rfl rfl rfl (congrArg Value.bool (decide_eq_true (by (try dsimp only); omega)))) ?_
                refine .step rfl (.move rfl rfl) ?_
                refine .go 181 rfl rfl rfl rfl (.move rfl rfl) ?_
                refine .go 181 rfl rfl rfl rfl (.move rfl rfl) ?_
                refine .go 181 rfl rfl rfl rfl (.binv (.bool false) rfl rfl rfl rfl (congrArg Value.bool (decide_eq_false (by (try dsimp only); omega)))) ?_
                refine .step rfl (.pick rfl rfl rfl) ?_
                refine .nil ?_
                refine .next ?_
                refine .cond rfl (fun h30 => absurd h30 (by decide)) (fun h30 => ?_)
                refine .skip ?_
                refine TE.obj 0 (.mrow 0 35 64 (((symX xs a m b)).flatMap It.dv)) rfl (by unfold symX; rw [if_neg (fun q => hc2 q.2)]) ?_
                exact TE.joinf (⟨hm1, hb1⟩) ⟨⟨rfl, rfl⟩, ⟨rfl, rfl⟩, ⟨rfl, rfl⟩, ⟨rfl, rfl⟩, ⟨rfl, rfl⟩, ⟨rfl, rfl⟩, ⟨rfl, rfl⟩, ⟨rfl, rfl⟩, trivial⟩ ⟨.inr rfl, trivial⟩
            · skip
              refine .region ?_
              refine .step rfl (.move rfl rfl) ?_
              refine .step rfl (.move rfl rfl) ?_
              refine .step rfl (.binv (.bool false) rfl rfl rfl rfl (congrArg Value.bool (decide_eq_false (by (try dsimp only); omega)))) ?_
              refine .step rfl (.move rfl rfl) ?_
              refine .no 181 rfl rfl rfl rfl rfl rfl rfl ?_
              refine .no 181 rfl rfl rfl rfl rfl rfl rfl ?_
              refine .no 181 rfl rfl rfl rfl rfl rfl rfl ?_
              refine .step rfl (.pick rfl rfl rfl) ?_
              refine .nil ?_
              refine .next ?_
              refine .cond rfl (fun h31 => absurd h31 (by decide)) (fun h31 => ?_)
              refine .skip ?_
              refine TE.obj 0 (.mrow 0 35 64 (((symX xs a m b)).flatMap It.dv)) rfl (by unfold symX; rw [if_neg (fun q => hc1 q.1)]) ?_
              exact TE.joinf (⟨hm1, hb1⟩) ⟨⟨rfl, rfl⟩, ⟨rfl, rfl⟩, ⟨rfl, rfl⟩, ⟨rfl, rfl⟩, ⟨rfl, rfl⟩, ⟨rfl, rfl⟩, ⟨rfl, rfl⟩, ⟨rfl, rfl⟩, trivial⟩ ⟨.inr rfl, trivial⟩
      · skip
        refine .seq ?_
        refine .region ?_
        refine .step rfl (.move rfl rfl) ?_
        refine .step rfl (.move rfl rfl) ?_
        refine .step rfl (.bin rfl rfl rfl rfl) ?_
        refine .nil ?_
        refine .next ?_
        refine .cond rfl (fun h32 => ?_) (fun h32 => ?_)
        · skip
          have hmm : ((a + b) / 2) < m := by have q := of_decide_eq_true h32; (try dsimp only at q); omega
          have hS : symS a m b = ((a + b) / 2) + m - b := by unfold symS; rw [if_pos hmm]
          have hR : symR a m b = ((a + b) / 2) := by unfold symR; rw [if_pos hmm]
          refine .seq ?_
          refine .region ?_
          refine .step rfl (.move rfl rfl) ?_
          refine .step rfl (.move rfl rfl) ?_
          refine .step rfl (.binv (.int .i64 (((a + b) / 2 + m - b : Nat) : Int)) rfl rfl rfl rfl (congrArg _ (by (try dsimp only); rw [IntKind.wrap_i64]; omega))) ?_
          refine .step rfl (.assign rfl rfl) ?_
          refine .nil ?_
          refine .next ?_
          refine .region ?_
          refine .step rfl (.move rfl rfl) ?_
          refine .step rfl (.assign rfl rfl) ?_
          refine .nil ?_
          refine TE.setv 20 (.int .i64 ((symS a m b : Nat) : Int)) rfl (by rw [hS]) ?_
          refine TE.setv 21 (.int .i64 ((symR a m b : Nat) : Int)) rfl (by rw [hR]) ?_
          exact TE.joinf (⟨hm1, hb1⟩) ⟨⟨rfl, rfl⟩, ⟨rfl, rfl⟩, ⟨rfl, rfl⟩, ⟨rfl, rfl⟩, ⟨rfl, rfl⟩, ⟨rfl, rfl⟩, ⟨rfl, rfl⟩, ⟨rfl, rfl⟩, ⟨rfl, rfl⟩, trivial⟩ ⟨.inr rfl, trivial⟩
        · skip
          have hmm : ¬ ((a + b) / 2) < m := by have q := of_decide_eq_false h32; (try dsimp only at q); omega
          have hS : symS a m b = a := by unfold symS; rw [if_neg hmm]
          have hR : symR a m b = m := by unfold symR; rw [if_neg hmm]
          refine .seq ?_
          refine .region ?_
          refine .step rfl (.move rfl rfl) ?_
          refine .step rfl (.assign rfl rfl) ?_
          refine .nil ?_
          refine .next ?_
          refine .region ?_
          refine .step rfl (.move rfl rfl) ?_
          refine .step rfl (.assign rfl rfl) ?_
          refine .nil ?_
          refine TE.setv 20 (.int .i64 ((symS a m b : Nat) : Int)) rfl (by rw [hS]) ?_
          refine TE.setv 21 (.int .i64 ((symR a m b : Nat) : Int)) rfl (by rw [hR]) ?_
          exact TE.joinf (⟨hm1, hb1⟩) ⟨⟨rfl, rfl⟩, ⟨rfl, rfl⟩, ⟨rfl, rfl⟩, ⟨rfl, rfl⟩, ⟨rfl, rfl⟩, ⟨rfl, rfl⟩, ⟨rfl, rfl⟩, ⟨rfl, rfl⟩, ⟨rfl, rfl⟩, trivial⟩ ⟨.inr rfl, trivial⟩

end Go.Proofs.Ythbcbfghfhecjaa
