/-
  The library's rotation.
-/
import Derived.Test.YthbcbfghfhecjaaVb
namespace Go.Proofs.Ythbcbfghfhecjaa
set_option linter.unusedVariables false
set_option linter.unusedSimpArgs false
open Go.RowKit Pl

theorem cf68 : cfn Try.prog 68 = true := by kernel_rfl

set_option maxRecDepth 100000 in
set_option maxHeartbeats 1600000 in
theorem swap_pm (xs : List It) (a b n : Nat) (ha : a + n ≤ xs.length) (hb : b + n ≤ xs.length) (hx : xs.length ≤ 1048576) : PM Try.prog 68 [.ow 0 xs.length 64, .d (.v (.int .i64 a)), .d (.v (.int .i64 b)), .d (.v (.int .i64 n)), .d (.fn (.func 32) [] [])] (.mrow 0 35 64 ((xs).flatMap It.dv)) (.mrow 0 35 64 ((swR n xs a b 0).flatMap It.dv)) (.d (.tp [])) := by
  refine PM.enter (fn := Try.f68) Try.func68 rfl Try.ntmps68 rfl rfl rfl (fun w0 K0 ob => ?_)
  refine .seq ?_
  refine .region ?_
  refine .step rfl (.assign rfl rfl) ?_
  refine .nil ?_
  refine .next ?_
  refine .block ?_
  refine TC.loop (S := Nat × List It) (fun s => s.2.length = xs.length ∧ s.1 ≤ n ∧ swR (n - s.1) s.2 a b s.1 = swR n xs a b 0) (fun s => n - s.1) (fun s => [(0, .ow 0 xs.length 64), (1, .d (.v (.int .i64 a))), (2, .d (.v (.int .i64 b))), (3, .d (.v (.int .i64 n))), (4, .d (.fn (.func 32) [] [])), (10, .f (.v (.int .i64 s.1)))]) (fun s => [(0, .mrow 0 35 64 ((s.2).flatMap It.dv))]) ((0, xs)) ⟨rfl, Nat.zero_le _, rfl⟩ ⟨⟨rfl, rfl⟩, ⟨rfl, rfl⟩, ⟨rfl, rfl⟩, ⟨rfl, rfl⟩, ⟨rfl, rfl⟩, ⟨rfl, rfl⟩, trivial⟩ ⟨.inr rfl, trivial⟩ (fun s hI => ?_)
  obtain ⟨i, ys⟩ := s
  obtain ⟨i1, i2, i3⟩ := hI
  have i1 : ys.length = xs.length := i1
  have i2 : i ≤ n := i2
  have i3 : swR (n - i) ys a b i = swR n xs a b 0 := i3
  refine .seq ?_
  refine .seq ?_
  refine .region ?_
  refine .step rfl (.move rfl rfl) ?_
  refine .step rfl (.move rfl rfl) ?_
  refine .step rfl (.bin rfl rfl rfl rfl) ?_
  refine .nil ?_
  refine .next ?_
  refine .cond rfl (fun h1 => ?_) (fun h1 => ?_)
  · skip
    have hin : i < n := by have q : (i : Int) < (n : Int) := of_decide_eq_true h1; omega
    have hai : a + i < ys.length := by omega
    have hbi : b + i < ys.length := by omega
    refine .skip ?_
    refine .next ?_
    refine .seq ?_
    refine .block ?_
    refine .draw mixed [Ro.mk _ (Eff.mk (some (16, _)) []) [], Ro.mk _ (Eff.mk (some (17, _)) []) [], Ro.mk _ (Eff.mk (some (18, _)) []) [], Ro.mk _ (Eff.mk (some (19, _)) []) [], Ro.mk _ (Eff.mk (some (20, _)) []) [], Ro.mk _ (Eff.mk (some (21, _)) []) [], Ro.mk _ (Eff.mk (some (22, _)) []) [], Ro.mk _ (Eff.mk (some (23, _)) []) [], Ro.mk _ (Eff.mk (some (24, _)) []) [], Ro.mk _ (Eff.mk (some (25, _)) []) [], Ro.mk _ (Eff.mk (some (26, _)) []) [], Ro.mk _ (Eff.mk (some (27, _)) []) [], Ro.mk _ (Eff.mk (some (28, _)) []) [0], Ro.mk _ (Eff.mk (some (29, _)) []) [0], Ro.mk _ (Eff.mk (some (30, _)) []) [], Ro.mk _ (Eff.mk (some (31, _)) []) [], Ro.mk _ (Eff.mk (some (32, _)) []) [], Ro.mk _ (Eff.mk (some (33, _)) []) [], Ro.mk _ (Eff.mk (some (34, _)) []) [0], Ro.mk _ (Eff.mk (some (35, _)) []) [0], Ro.mk _ (Eff.mk (some (36, _)) []) [0], Ro.mk _ (Eff.mk none [(0, _)]) [0], Ro.mk _ (Eff.mk (some (37, _)) []) [0], Ro.mk _ (Eff.mk none [(0, _)]) [0]] rfl ⟨(fun _ _ => .move rfl rfl), (fun _ _ => .move rfl rfl), (fun _ _ => .move rfl rfl), (fun _ _ => .binv (.int .i64 ((a + i : Nat) : Int)) rfl rfl rfl rfl (congrArg _ (by (try dsimp only); rw [IntKind.wrap_i64]; omega))), (fun _ _ => .move rfl rfl), (fun _ _ => .move rfl rfl), (fun _ _ => .move rfl rfl), (fun _ _ => .binv (.int .i64 ((b + i : Nat) : Int)) rfl rfl rfl rfl (congrArg _ (by (try dsimp only); rw [IntKind.wrap_i64]; omega))), (fun _ _ => .move rfl rfl), (fun _ _ => .move rfl rfl), (fun _ _ => .move rfl rfl), (fun _ _ => .binv (.int .i64 ((b + i : Nat) : Int)) rfl rfl rfl rfl (congrArg _ (by (try dsimp only); rw [IntKind.wrap_i64]; omega))), (fun _ _ => .idxo rfl rfl rfl rfl rfl et25 (Int.natCast_nonneg _) (by omega)), (fun _ _ => .ldpm rfl rfl rfl rfl (flat_at it_len ys (hbi)) (it_len _) tk35), (fun _ _ => .move rfl rfl), (fun _ _ => .move rfl rfl), (fun _ _ => .move rfl rfl), (fun _ _ => .binv (.int .i64 ((a + i : Nat) : Int)) rfl rfl rfl rfl (congrArg _ (by (try dsimp only); rw [IntKind.wrap_i64]; omega))), (fun _ _ => .idxo rfl rfl rfl rfl rfl et25 (Int.natCast_nonneg _) (by omega)), (fun _ _ => .ldpm rfl rfl rfl rfl (flat_at it_len ys (hai)) (it_len _) tk35), (fun _ _ => .idxo rfl rfl rfl rfl rfl et25 (Int.natCast_nonneg _) (by omega)), (fun _ _ => .storerm (xs := ys) (enc := It.dv) (ys[b + i]) rfl rfl rfl rfl rfl rfl (fun _ => rfl) sz35 rfl (hai)), (fun _ _ => .idxo rfl rfl rfl rfl rfl et25 (Int.natCast_nonneg _) (by omega)), (fun _ _ => .storerm (xs := ys.set (a + i) ys[b + i]) (enc := It.dv) (ys[a + i]) rfl rfl rfl rfl rfl rfl (fun _ => rfl) sz35 rfl (by rw [List.length_set]; exact hbi)), trivial⟩ (by kernel_rfl) ?_
    refine TE.blk ?_
    refine .next ?_
    refine .region ?_
    refine .step rfl (.move rfl rfl) ?_
    refine .step rfl (.binv (.int .i64 ((i + 1 : Nat) : Int)) rfl rfl rfl rfl (congrArg _ (by (try dsimp only); rw [IntKind.wrap_i64]; omega))) ?_
    refine .step rfl (.assign rfl rfl) ?_
    refine .nil ?_
    refine TE.obj 0 (.mrow 0 35 64 ((swI ys (a + i) (b + i)).flatMap It.dv)) rfl (by unfold swI; rw [at_eq hai, at_eq hbi]) ?_
    exact TE.round id (fun _ _ e => e) ((i + 1, swI ys (a + i) (b + i))) ⟨by show (swI ys (a + i) (b + i)).length = _; rw [swI_len]; exact i1, by show i + 1 ≤ n; omega, by show swR (n - (i + 1)) (swI ys (a + i) (b + i)) a b (i + 1) = _; rw [← i3, show n - i = (n - (i + 1)) + 1 by omega]; rfl⟩ (by show n - (i + 1) < n - i; omega) ⟨⟨rfl, rfl⟩, ⟨rfl, rfl⟩, ⟨rfl, rfl⟩, ⟨rfl, rfl⟩, ⟨rfl, rfl⟩, ⟨rfl, rfl⟩, trivial⟩ ⟨.inr rfl, trivial⟩
  · skip
    have hin : ¬ i < n := by have q : ¬ ((i : Int) < (n : Int)) := of_decide_eq_false h1; omega
    rw [show n - i = 0 by omega] at i3
    have e : ys = swR n xs a b 0 := i3
    subst e
    refine .exit ?_
    refine TE.pass ?_
    refine TE.pass ?_
    refine TE.here ?_
    exact TE.retm0 0 rfl rfl rfl

set_option maxRecDepth 100000 in
set_option maxHeartbeats 1600000 in
theorem rot_pm (xs : List It) (a m b : Nat) (ham : a < m) (hmb : m < b) (hb : b ≤ xs.length) (hx : xs.length ≤ 1048576) : PM Try.prog 65 [.ow 0 xs.length 64, .d (.v (.int .i64 a)), .d (.v (.int .i64 m)), .d (.v (.int .i64 b)), .d (.fn (.func 32) [] [])] (.mrow 0 35 64 ((xs).flatMap It.dv)) (.mrow 0 35 64 ((rotI xs a m b).flatMap It.dv)) (.d (.tp [])) := by
  refine PM.enter (fn := Try.f65) Try.func65 rfl Try.ntmps65 rfl rfl rfl (fun w0 K0 ob => ?_)
  refine .seq ?_
  refine .region ?_
  refine .step rfl (.move rfl rfl) ?_
  refine .step rfl (.move rfl rfl) ?_
  refine .step rfl (.binv (.int .i64 ((m - a : Nat) : Int)) rfl rfl rfl rfl (congrArg _ (by (try dsimp only); rw [IntKind.wrap_i64]; omega))) ?_
  refine .step rfl (.assign rfl rfl) ?_
  refine .nil ?_
  refine .next ?_
  refine .seq ?_
  refine .region ?_
  refine .step rfl (.move rfl rfl) ?_
  refine .step rfl (.move rfl rfl) ?_
  refine .step rfl (.binv (.int .i64 ((b - m : Nat) : Int)) rfl rfl rfl rfl (congrArg _ (by (try dsimp only); rw [IntKind.wrap_i64]; omega))) ?_
  refine .step rfl (.assign rfl rfl) ?_
  refine .nil ?_
  refine .next ?_
  refine .seq ?_
  refine .block ?_
  refine TC.loop (S := Nat × Nat × Nat × List It) (fun s => s.2.2.2.length = xs.length ∧ 0 < s.2.1 ∧ 0 < s.2.2.1 ∧ s.2.1 + s.2.2.1 ≤ s.1 ∧ a + s.2.1 ≤ m ∧ m + s.2.2.1 ≤ b ∧ rotG s.1 s.2.2.2 m s.2.1 s.2.2.1 = rotI xs a m b) (fun s => s.2.1 + s.2.2.1) (fun s => [(0, .ow 0 xs.length 64), (1, .d (.v (.int .i64 a))), (2, .d (.v (.int .i64 m))), (3, .d (.v (.int .i64 b))), (4, .d (.fn (.func 32) [] [])), (10, .f (.v (.int .i64 s.2.1))), (11, .f (.v (.int .i64 s.2.2.1)))]) (fun s => [(0, .mrow 0 35 64 ((s.2.2.2).flatMap It.dv))]) ((b - a, m - a, b - m, xs)) ⟨rfl, by show 0 < m - a; omega, by show 0 < b - m; omega, by show m - a + (b - m) ≤ b - a; omega, by show a + (m - a) ≤ m; omega, by show m + (b - m) ≤ b; omega, rfl⟩ ⟨⟨rfl, rfl⟩, ⟨rfl, rfl⟩, ⟨rfl, rfl⟩, ⟨rfl, rfl⟩, ⟨rfl, rfl⟩, ⟨rfl, rfl⟩, ⟨rfl, rfl⟩, trivial⟩ ⟨.inr rfl, trivial⟩ (fun s hI => ?_)
  obtain ⟨f, i, j, ys⟩ := s
  obtain ⟨i1, i2, i3, i4, i5, i6, i7⟩ := hI
  have i1 : ys.length = xs.length := i1
  have i2 : 0 < i := i2
  have i3 : 0 < j := i3
  have i4 : i + j ≤ f := i4
  have i5 : a + i ≤ m := i5
  have i6 : m + j ≤ b := i6
  have i7 : rotG f ys m i j = rotI xs a m b := i7
  refine .seq ?_
  refine .seq ?_
  refine .region ?_
  refine .step rfl (.move rfl rfl) ?_
  refine .step rfl (.move rfl rfl) ?_
  refine .step rfl (.bin rfl rfl rfl rfl) ?_
  refine .nil ?_
  refine .next ?_
  refine .cond rfl (fun h1 => ?_) (fun h1 => ?_)
  · skip
    have hne : ¬ i = j := by have q : (!decide ((i : Int) = (j : Int))) = true := h1; simp at q; omega
    refine .skip ?_
    refine .next ?_
    refine .block ?_
    refine .seq ?_
    refine .region ?_
    refine .step rfl (.move rfl rfl) ?_
    refine .step rfl (.move rfl rfl) ?_
    refine .step rfl (.bin rfl rfl rfl rfl) ?_
    refine .nil ?_
    refine .next ?_
    refine .cond rfl (fun h2 => ?_) (fun h2 => ?_)
    · skip
      have hgt : j < i := by have q : (j : Int) < (i : Int) := of_decide_eq_true h2; omega
      refine .seq ?_
      refine .region ?_
      refine .step rfl (.move rfl rfl) ?_
      refine .step rfl (.move rfl rfl) ?_
      refine .step rfl (.move rfl rfl) ?_
      refine .step rfl (.binv (.int .i64 ((m - i : Nat) : Int)) rfl rfl rfl rfl (congrArg _ (by (try dsimp only); rw [IntKind.wrap_i64]; omega))) ?_
      refine .step rfl (.move rfl rfl) ?_
      refine .step rfl (.move rfl rfl) ?_
      refine .step rfl (.move rfl rfl) ?_
      refine .step rfl (.callm (o' := .mrow 0 35 64 ((swR (j) ys (m - i) (m) 0).flatMap It.dv)) 0 rfl cf68 rfl rfl rfl rfl (by simp) rfl rfl (i1 ▸ swap_pm ys (m - i) (m) (j) (by omega) (by omega) (by omega))) ?_
      refine .nil ?_
      refine .next ?_
      refine .region ?_
      refine .step rfl (.move rfl rfl) ?_
      refine .step rfl (.move rfl rfl) ?_
      refine .step rfl (.binv (.int .i64 ((i - j : Nat) : Int)) rfl rfl rfl rfl (congrArg _ (by (try dsimp only); rw [IntKind.wrap_i64]; omega))) ?_
      refine .step rfl (.assign rfl rfl) ?_
      refine .nil ?_
      refine TE.blk ?_
      exact TE.round id (fun _ _ e => e) ((f - 1, i - j, j, swR j ys (m - i) m 0)) ⟨by show (swR j ys (m - i) m 0).length = _; rw [swR_len]; exact i1, by show 0 < i - j; omega, i3, by show i - j + j ≤ f - 1; omega, by show a + (i - j) ≤ m; omega, i6, by show rotG (f - 1) (swR j ys (m - i) m 0) m (i - j) j = _; rw [← i7, rotG_gt (by omega) hne hgt]⟩ (by show i - j + j < i + j; omega) ⟨⟨rfl, rfl⟩, ⟨rfl, rfl⟩, ⟨rfl, rfl⟩, ⟨rfl, rfl⟩, ⟨rfl, rfl⟩, ⟨rfl, rfl⟩, ⟨rfl, rfl⟩, trivial⟩ ⟨.inr rfl, trivial⟩
    · skip
      have hgt : ¬ j < i := by have q : ¬ ((j : Int) < (i : Int)) := of_decide_eq_false h2; omega
      refine .seq ?_
      refine .region ?_
      refine .step rfl (.move rfl rfl) ?_
      refine .step rfl (.move rfl rfl) ?_
      refine .step rfl (.move rfl rfl) ?_
      refine .step rfl (.binv (.int .i64 ((m - i : Nat) : Int)) rfl rfl rfl rfl (congrArg _ (by (try dsimp only); rw [IntKind.wrap_i64]; omega))) ?_
      refine .step rfl (.move rfl rfl) ?_
      refine .step rfl (.move rfl rfl) ?_
      refine .step rfl (.binv (.int .i64 ((m + j : Nat) : Int)) rfl rfl rfl rfl (congrArg _ (by (try dsimp only); rw [IntKind.wrap_i64]; omega))) ?_
      refine .step rfl (.move rfl rfl) ?_
      refine .step rfl (.binv (.int .i64 ((m + j - i : Nat) : Int)) rfl rfl rfl rfl (congrArg _ (by (try dsimp only); rw [IntKind.wrap_i64]; omega))) ?_
      refine .step rfl (.move rfl rfl) ?_
      refine .step rfl (.move rfl rfl) ?_
      refine .step rfl (.callm (o' := .mrow 0 35 64 ((swR (i) ys (m - i) (m + j - i) 0).flatMap It.dv)) 0 rfl cf68 rfl rfl rfl rfl (by simp) rfl rfl (i1 ▸ swap_pm ys (m - i) (m + j - i) (i) (by omega) (by omega) (by omega))) ?_
      refine .nil ?_
      refine .next ?_
      refine .region ?_
      refine .step rfl (.move rfl rfl) ?_
      refine .step rfl (.move rfl rfl) ?_
      refine .step rfl (.binv (.int .i64 ((j - i : Nat) : Int)) rfl rfl rfl rfl (congrArg _ (by (try dsimp only); rw [IntKind.wrap_i64]; omega))) ?_
      refine .step rfl (.assign rfl rfl) ?_
      refine .nil ?_
      refine TE.blk ?_
      exact TE.round id (fun _ _ e => e) ((f - 1, i, j - i, swR i ys (m - i) (m + j - i) 0)) ⟨by show (swR i ys (m - i) (m + j - i) 0).length = _; rw [swR_len]; exact i1, i2, by show 0 < j - i; omega, by show i + (j - i) ≤ f - 1; omega, i5, by show m + (j - i) ≤ b; omega, by show rotG (f - 1) (swR i ys (m - i) (m + j - i) 0) m i (j - i) = _; rw [← i7, rotG_lt (by omega) hne hgt]⟩ (by show i + (j - i) < i + j; omega) ⟨⟨rfl, rfl⟩, ⟨rfl, rfl⟩, ⟨rfl, rfl⟩, ⟨rfl, rfl⟩, ⟨rfl, rfl⟩, ⟨rfl, rfl⟩, ⟨rfl, rfl⟩, trivial⟩ ⟨.inr rfl, trivial⟩
  · skip
    have heq : i = j := by have q : (!decide ((i : Int) = (j : Int))) = false := h1; simp at q; omega
    have e : rotI xs a m b = swR i ys (m - i) m 0 := by rw [← i7, rotG_eq (by omega) heq]
    rw [e]
    refine .exit ?_
    refine TE.pass ?_
    refine TE.pass ?_
    refine TE.here ?_
    refine .next ?_
    refine .region ?_
    refine .step rfl (.move rfl rfl) ?_
    refine .step rfl (.move rfl rfl) ?_
    refine .step rfl (.move rfl rfl) ?_
    refine .step rfl (.binv (.int .i64 ((m - i : Nat) : Int)) rfl rfl rfl rfl (congrArg _ (by (try dsimp only); rw [IntKind.wrap_i64]; omega))) ?_
    refine .step rfl (.move rfl rfl) ?_
    refine .step rfl (.move rfl rfl) ?_
    refine .step rfl (.move rfl rfl) ?_
    refine .step rfl (.callm (o' := .mrow 0 35 64 ((swR (i) ys (m - i) (m) 0).flatMap It.dv)) 0 rfl cf68 rfl rfl rfl rfl (by simp) rfl rfl (i1 ▸ swap_pm ys (m - i) (m) (i) (by omega) (by omega) (by omega))) ?_
    refine .nil ?_
    exact TE.retm0 0 rfl rfl rfl

end Go.Proofs.Ythbcbfghfhecjaa
