/-
  Neighbours that are alike.
-/
import Derived.Test.YthbcbfghfhecjaaVh
namespace Go.Proofs.Ythbcbfghfhecjaa
set_option linter.unusedVariables false
set_option linter.unusedSimpArgs false
open Go.RowKit Pl

theorem cf35 : cfn Try.prog 35 = true := by kernel_rfl
theorem qh24 : eqT Try.prog 24 = some hks := by kernel_rfl
theorem tk24 : tyk Try.prog 24 = some (some 32) := by kernel_rfl
theorem zc35 : zc Try.prog 35 = some [.int .u8 0, .int .u8 0, .int .u8 0, .int .u8 0, .int .u8 0, .int .u8 0, .int .u8 0, .int .u8 0, .int .u8 0, .int .u8 0, .int .u8 0, .int .u8 0, .int .u8 0, .int .u8 0, .int .u8 0, .int .u8 0, .int .u8 0, .int .u8 0, .int .u8 0, .int .u8 0, .int .u8 0, .int .u8 0, .int .u8 0, .int .u8 0, .int .u8 0, .int .u8 0, .int .u8 0, .int .u8 0, .int .u8 0, .int .u8 0, .int .u8 0, .int .u8 0, .int .u8 0, .int .u8 0, .int .u8 0, .int .u8 0, .int .u8 0, .int .u8 0, .int .u8 0, .int .u8 0, .int .u8 0, .int .u8 0, .int .u8 0, .int .u8 0, .int .u8 0, .int .u8 0, .int .u8 0, .int .u8 0, .int .u8 0, .int .u8 0, .int .u8 0, .int .u8 0, .int .u8 0, .int .u8 0, .int .u8 0, .int .u8 0, .int .u8 0, .int .u8 0, .int .u8 0, .int .u8 0, .int .u8 0, .int .u8 0, .int .u8 0, .int .u8 0] := by kernel_rfl

set_option maxRecDepth 100000 in
set_option maxHeartbeats 1600000 in
theorem alike_pf (x y : It) : PF Try.prog 35 [.ag x.dv, .ag y.dv] (.v (.bool (alike x y))) := by
  refine PF.enter (fn := Try.f35) Try.func35 rfl Try.ntmps35 rfl (fun w0 => ?_)
  refine .seq ?_
  refine .region ?_
  refine .step rfl (.box 1 rfl rfl rfl rfl) ?_
  refine .step rfl (.box 2 rfl rfl rfl rfl) ?_
  refine .step rfl (.assign rfl rfl) ?_
  refine .nil ?_
  refine TE.frzb 2 rfl rfl rfl rfl ?_
  refine TE.frzb 3 rfl rfl rfl rfl ?_
  refine .next ?_
  refine .seq ?_
  refine .region ?_
  refine .step rfl (.fielde rfl rfl rfl fo35_0) ?_
  refine .step rfl (.ldem (ds := hdv x.ix) rfl rfl rfl rfl rfl tk24) ?_
  refine .step rfl (.fielde rfl rfl rfl fo35_0) ?_
  refine .step rfl (.ldem (ds := hdv y.ix) rfl rfl rfl rfl rfl tk24) ?_
  refine .step rfl (.eqh (a := x.ix) (b := y.ix) rfl rfl rfl qh24) ?_
  refine .step rfl (.assign rfl rfl) ?_
  refine .nil ?_
  refine .next ?_
  refine .ret ?_
  exact TE.retf rfl rfl rfl trivial

set_option maxRecDepth 100000 in
set_option maxHeartbeats 1600000 in
theorem compact_pm (xs : List It) (hx : xs.length ≤ 1048576) : PM Try.prog 34 [.ow 0 xs.length 64, .d (.fn (.func 35) [] [])] (.mrow 0 35 64 ((xs).flatMap It.dv)) (.mrow 0 35 64 ((dd xs).flatMap It.dv)) (.ow 0 (dd xs).length 64) := by
  refine PM.enter (fn := Try.f34) Try.func34 rfl Try.ntmps34 rfl rfl rfl (fun w0 K0 ob => ?_)
  refine .seq ?_
  refine .region ?_
  refine .step rfl (.assign rfl rfl) ?_
  refine .nil ?_
  refine .next ?_
  refine .seq ?_
  refine .seq ?_
  refine .region ?_
  refine .step rfl (.move rfl rfl) ?_
  refine .step rfl (.leno rfl rfl rfl is25) ?_
  refine .step rfl (.bin rfl rfl rfl rfl) ?_
  refine .nil ?_
  refine .next ?_
  refine .cond rfl (fun h1 => ?_) (fun h1 => ?_)
  · skip
    have hn : xs.length < 2 := by have q := of_decide_eq_true h1; (try dsimp only at q); omega
    have e : dd xs = xs := dd_one hn
    refine .seq ?_
    refine .region ?_
    refine .step rfl (.move rfl rfl) ?_
    refine .step rfl (.assign rfl rfl) ?_
    refine .nil ?_
    refine .next ?_
    refine .ret ?_
    rw [e]
    exact TE.retm 0 rfl rfl rfl rfl rfl
  · skip
    have hn : ¬ (xs.length < 2) := by have q := of_decide_eq_false h1; (try dsimp only at q); omega
    refine .skip ?_
    refine .next ?_
    refine .seq ?_
    refine .seq ?_
    refine .region ?_
    refine .step rfl (.assign rfl rfl) ?_
    refine .nil ?_
    refine TE.setv 5 (.int .i64 ((1 : Nat) : Int)) rfl (congrArg _ (by first | rfl | (dsimp only; first | done | rfl | omega))) ?_
    refine .next ?_
    refine .block ?_
    refine TC.loop (S := Nat) (fun k => 1 ≤ k ∧ k ≤ xs.length ∧ dd (xs.take k) = xs.take k) (fun k => xs.length - k) (fun k => [(0, .ow 0 xs.length 64), (1, .d (.fn (.func 35) [] [])), (5, .d (.v (.int .i64 ((k : Nat) : Int))))]) (fun k => [(0, .mrow 0 35 64 ((xs).flatMap It.dv))]) (1) ⟨Nat.le_refl _, by omega, dd_one (by simp; omega)⟩ ⟨⟨rfl, rfl⟩, ⟨rfl, rfl⟩, ⟨rfl, rfl⟩, trivial⟩ ⟨.inr rfl, trivial⟩ (fun k hI => ?_)
    obtain ⟨k1, k2, k3⟩ := hI
    refine .seq ?_
    refine .seq ?_
    refine .region ?_
    refine .step rfl (.move rfl rfl) ?_
    refine .step rfl (.move rfl rfl) ?_
    refine .step rfl (.leno rfl rfl rfl is25) ?_
    refine .step rfl (.bin rfl rfl rfl rfl) ?_
    refine .nil ?_
    refine .next ?_
    refine .cond rfl (fun h2 => ?_) (fun h2 => ?_)
    · skip
      have hk : k < xs.length := by have q := of_decide_eq_true h2; (try dsimp only at q); omega
      refine .skip ?_
      refine .next ?_
      refine .seq ?_
      refine .block ?_
      refine .seq ?_
      refine .draw mixed [Ro.mk _ (Eff.mk (some (18, _)) []) [], Ro.mk _ (Eff.mk (some (19, _)) []) [], Ro.mk _ (Eff.mk (some (20, _)) []) [], Ro.mk _ (Eff.mk (some (21, _)) []) [0], Ro.mk _ (Eff.mk (some (22, _)) []) [0], Ro.mk _ (Eff.mk (some (23, _)) []) [], Ro.mk _ (Eff.mk (some (24, _)) []) [], Ro.mk _ (Eff.mk (some (25, _)) []) [], Ro.mk _ (Eff.mk (some (26, _)) []) [0], Ro.mk _ (Eff.mk (some (27, _)) []) [0], Ro.mk _ (Eff.mk (some (28, _)) []) []] rfl ⟨(fun _ _ => .move rfl rfl), (fun _ _ => .move rfl rfl), (fun _ _ => .move rfl rfl), (fun _ _ => .idxo rfl rfl rfl rfl rfl et25 (Int.natCast_nonneg _) (by omega)), (fun _ _ => .ldpm rfl rfl rfl rfl (flat_at it_len xs (hk)) (it_len _) tk35), (fun _ _ => .move rfl rfl), (fun _ _ => .move rfl rfl), (fun _ _ => .binv (.int .i64 ((k - 1 : Nat) : Int)) rfl rfl rfl rfl (congrArg _ (by (try dsimp only); rw [IntKind.wrap_i64]; omega))), (fun _ _ => .idxo rfl rfl rfl rfl rfl et25 (Int.natCast_nonneg _) (by omega)), (fun _ _ => .ldpm rfl rfl rfl rfl (flat_at it_len xs (show k - 1 < xs.length by omega)) (it_len _) tk35), (fun _ _ => .callvf0 rfl rfl cf35 rfl ⟨trivial, trivial, trivial⟩ (alike_pf (xs[k]) (xs[k - 1]))), trivial⟩ (by kernel_rfl) ?_
      refine .next ?_
      refine .cond rfl (fun h3 => ?_) (fun h3 => ?_)
      · skip
        have hal : alike xs[k] xs[k - 1] = true := h3
        refine .seq ?_
        refine .region ?_
        refine .step rfl (.move rfl rfl) ?_
        refine .step rfl (.move rfl rfl) ?_
        refine .step rfl (.sliceo rfl rfl rfl rfl et25 rfl rfl (by omega) (by omega) (by omega) (by omega)) ?_
        refine .step rfl (.assign rfl rfl) ?_
        refine .nil ?_
        refine TE.set 6 (.bs 0 (k * 64) (xs.length - k) 64) rfl (by simp) ?_
        refine .next ?_
        refine .seq ?_
        refine .seq ?_
        refine .region ?_
        refine .step rfl (.assign rfl rfl) ?_
        refine .nil ?_
        refine TE.setv 7 (.int .i64 ((1 : Nat) : Int)) rfl (congrArg _ (by first | rfl | (dsimp only; first | done | rfl | omega))) ?_
        refine .next ?_
        refine .block ?_
        refine TC.loop (S := Nat × Nat × List It) (fun s => 1 ≤ s.1 ∧ k + s.1 ≤ xs.length ∧ s.2.1 + 1 ≤ k + s.1 ∧ s.2.2.length = xs.length ∧ s.2.2.drop (k + s.1 - 1) = xs.drop (k + s.1 - 1) ∧ s.2.2.take s.2.1 = dd (xs.take (k + s.1)) ∧ s.2.1 = (dd (xs.take (k + s.1))).length) (fun s => xs.length - k - s.1) (fun s => [(0, .ow 0 xs.length 64), (1, .d (.fn (.func 35) [] [])), (5, .d (.v (.int .i64 ((s.2.1 : Nat) : Int)))), (6, .bs 0 (k * 64) (xs.length - k) 64), (7, .d (.v (.int .i64 ((s.1 : Nat) : Int))))]) (fun s => [(0, .mrow 0 35 64 ((s.2.2).flatMap It.dv))]) ((1, k, xs)) ⟨Nat.le_refl _, by show k + 1 ≤ _; omega, Nat.le_refl _, rfl, rfl, by show xs.take k = _; rw [dd_snoc k1 hk, if_pos hal, k3], by show k = _; rw [dd_snoc k1 hk, if_pos hal, k3]; simp; omega⟩ ⟨⟨rfl, rfl⟩, ⟨rfl, rfl⟩, ⟨rfl, rfl⟩, ⟨rfl, rfl⟩, ⟨rfl, rfl⟩, trivial⟩ ⟨.inr rfl, trivial⟩ (fun s hI => ?_)
        obtain ⟨j, i, ys⟩ := s
        obtain ⟨j1, j2, j3, j4, j5, j6, j7⟩ := hI
        have j1 : 1 ≤ j := j1
        have j2 : k + j ≤ xs.length := j2
        have j3 : i + 1 ≤ k + j := j3
        have j4 : ys.length = xs.length := j4
        have j5 : ys.drop (k + j - 1) = xs.drop (k + j - 1) := j5
        have j6 : ys.take i = dd (xs.take (k + j)) := j6
        have j7 : i = (dd (xs.take (k + j))).length := j7
        refine .seq ?_
        refine .seq ?_
        refine .region ?_
        refine .step rfl (.move rfl rfl) ?_
        refine .step rfl (.move rfl rfl) ?_
        refine .step rfl (.lenb rfl rfl rfl rfl is25) ?_
        refine .step rfl (.bin rfl rfl rfl rfl) ?_
        refine .nil ?_
        refine .next ?_
        refine .cond rfl (fun h4 => ?_) (fun h4 => ?_)
        · skip
          have hj : k + j < xs.length := by have q := of_decide_eq_true h4; (try dsimp only at q); omega
          have hy1 : k + j < ys.length := by omega
          have hy2 : k + (j - 1) < ys.length := by omega
          have hy3 : k + j - 1 < ys.length := by omega
          have he1 : ys[k + j] = xs[k + j] := get_drop j5 (by omega) hy1 hj
          have he2 : ys[k + (j - 1)] = xs[k + j - 1] := by rw [get_same (show k + (j - 1) = k + j - 1 by omega) hy2 hy3]; exact get_drop j5 (Nat.le_refl _) hy3 (by omega)
          refine .skip ?_
          refine .next ?_
          refine .seq ?_
          refine .block ?_
          refine .seq ?_
          refine .draw mixed [Ro.mk _ (Eff.mk (some (38, _)) []) [], Ro.mk _ (Eff.mk (some (39, _)) []) [], Ro.mk _ (Eff.mk (some (40, _)) []) [], Ro.mk _ (Eff.mk (some (41, _)) []) [0], Ro.mk _ (Eff.mk (some (42, _)) []) [0], Ro.mk _ (Eff.mk (some (43, _)) []) [], Ro.mk _ (Eff.mk (some (44, _)) []) [], Ro.mk _ (Eff.mk (some (45, _)) []) [], Ro.mk _ (Eff.mk (some (46, _)) []) [0], Ro.mk _ (Eff.mk (some (47, _)) []) [0], Ro.mk _ (Eff.mk (some (48, _)) []) [], Ro.mk _ (Eff.mk (some (49, _)) []) []] rfl ⟨(fun _ _ => .move rfl rfl), (fun _ _ => .move rfl rfl), (fun _ _ => .move rfl rfl), (fun _ _ => .idxb rfl rfl rfl rfl rfl et25 (Int.natCast_nonneg _) (by omega)), (fun _ _ => .ldpm rfl rfl rfl rfl (by rw [show k * 64 + (((j : Nat) : Int)).toNat * 64 = (k + (j)) * 64 by (try rw [Int.toNat_natCast]); omega]; exact flat_at it_len ys (hy1)) (it_len _) tk35), (fun _ _ => .move rfl rfl), (fun _ _ => .move rfl rfl), (fun _ _ => .binv (.int .i64 ((j - 1 : Nat) : Int)) rfl rfl rfl rfl (congrArg _ (by (try dsimp only); rw [IntKind.wrap_i64]; omega))), (fun _ _ => .idxb rfl rfl rfl rfl rfl et25 (Int.natCast_nonneg _) (by omega)), (fun _ _ => .ldpm rfl rfl rfl rfl (by rw [show k * 64 + (((j - 1 : Nat) : Int)).toNat * 64 = (k + (j - 1)) * 64 by (try rw [Int.toNat_natCast]); omega]; exact flat_at it_len ys (hy2)) (it_len _) tk35), (fun _ _ => .callvf0 rfl rfl cf35 rfl ⟨trivial, trivial, trivial⟩ (alike_pf (ys[k + j]) (ys[k + (j - 1)]))), (fun _ _ => .un rfl rfl rfl), trivial⟩ (by kernel_rfl) ?_
          refine .next ?_
          refine .cond rfl (fun h5 => ?_) (fun h5 => ?_)
          · skip
            have hna : ¬ alike ys[k + j] ys[k + (j - 1)] = true := by simpa using h5
            refine .seq ?_
            refine .region ?_
            refine .step rfl (.move rfl rfl) ?_
            refine .step rfl (.move rfl rfl) ?_
            refine .step rfl (.move rfl rfl) ?_
            refine .step rfl (.move rfl rfl) ?_
            refine .step rfl (.idxb rfl rfl rfl rfl rfl et25 (Int.natCast_nonneg _) (by omega)) ?_
            refine .step rfl (.ldpm rfl rfl rfl rfl (by rw [show k * 64 + (((j : Nat) : Int)).toNat * 64 = (k + (j)) * 64 by (try rw [Int.toNat_natCast]); omega]; exact flat_at it_len ys (hy1)) (it_len _) tk35) ?_
            refine .step rfl (.idxo rfl rfl rfl rfl rfl et25 (Int.natCast_nonneg _) (by omega)) ?_
            refine .step rfl (.storerm (xs := ys) (enc := It.dv) (ys[k + j]) rfl rfl rfl rfl rfl rfl (fun _ => rfl) sz35 rfl (by omega)) ?_
            refine .nil ?_
            refine TE.obj 0 (.mrow 0 35 64 ((ys.set i ys[k + j]).flatMap It.dv)) rfl rfl ?_
            refine .next ?_
            refine .region ?_
            refine .step rfl (.move rfl rfl) ?_
            refine .step rfl (.binv (.int .i64 ((i + 1 : Nat) : Int)) rfl rfl rfl rfl (congrArg _ (by (try dsimp only); rw [IntKind.wrap_i64]; omega))) ?_
            refine .step rfl (.assign rfl rfl) ?_
            refine .nil ?_
            refine TE.blk ?_
            refine .next ?_
            refine .region ?_
            refine .step rfl (.move rfl rfl) ?_
            refine .step rfl (.binv (.int .i64 ((j + 1 : Nat) : Int)) rfl rfl rfl rfl (congrArg _ (by (try dsimp only); rw [IntKind.wrap_i64]; omega))) ?_
            refine .step rfl (.assign rfl rfl) ?_
            refine .nil ?_
            refine TE.setv 7 (.int .i64 ((j + 1 : Nat) : Int)) rfl (congrArg _ (by first | rfl | (dsimp only; first | done | rfl | omega))) ?_
            refine TE.setv 5 (.int .i64 ((i + 1 : Nat) : Int)) rfl (congrArg _ (by first | rfl | (dsimp only; first | done | rfl | omega))) ?_
            exact TE.round id (fun _ _ e => e) ((j + 1, i + 1, ys.set i ys[k + j])) ⟨by show 1 ≤ j + 1; omega, by show k + (j + 1) ≤ _; omega, by show i + 1 + 1 ≤ k + (j + 1); omega, by show (ys.set i ys[k + j]).length = _; rw [List.length_set]; exact j4, by show (ys.set i ys[k + j]).drop (k + (j + 1) - 1) = _; rw [List.drop_set_of_lt (by omega)]; exact drop_more j5, by show (ys.set i ys[k + j]).take (i + 1) = dd (xs.take (k + j + 1)); rw [dd_snoc (by omega) hj, if_neg (by rw [← he1, ← he2]; exact hna), ← j6, ← he1]; exact take_set_snoc (by omega), by show i + 1 = (dd (xs.take (k + j + 1))).length; rw [dd_snoc (by omega) hj, if_neg (by rw [← he1, ← he2]; exact hna), List.length_append, ← j7]; rfl⟩ (by show _ - k - (j + 1) < _ - k - j; omega) ⟨⟨rfl, rfl⟩, ⟨rfl, rfl⟩, ⟨rfl, rfl⟩, ⟨rfl, rfl⟩, ⟨rfl, rfl⟩, trivial⟩ ⟨.inr rfl, trivial⟩
          · skip
            have hna : alike ys[k + j] ys[k + (j - 1)] = true := by simpa using h5
            refine .skip ?_
            refine TE.blk ?_
            refine .next ?_
            refine .region ?_
            refine .step rfl (.move rfl rfl) ?_
            refine .step rfl (.binv (.int .i64 ((j + 1 : Nat) : Int)) rfl rfl rfl rfl (congrArg _ (by (try dsimp only); rw [IntKind.wrap_i64]; omega))) ?_
            refine .step rfl (.assign rfl rfl) ?_
            refine .nil ?_
            refine TE.setv 7 (.int .i64 ((j + 1 : Nat) : Int)) rfl (congrArg _ (by first | rfl | (dsimp only; first | done | rfl | omega))) ?_
            exact TE.round id (fun _ _ e => e) ((j + 1, i, ys)) ⟨by show 1 ≤ j + 1; omega, by show k + (j + 1) ≤ _; omega, by show i + 1 ≤ k + (j + 1); omega, j4, drop_more j5, by show ys.take i = dd (xs.take (k + j + 1)); rw [dd_snoc (by omega) hj, if_pos (by rw [← he1, ← he2]; exact hna)]; exact j6, by show i = (dd (xs.take (k + j + 1))).length; rw [dd_snoc (by omega) hj, if_pos (by rw [← he1, ← he2]; exact hna)]; exact j7⟩ (by show _ - k - (j + 1) < _ - k - j; omega) ⟨⟨rfl, rfl⟩, ⟨rfl, rfl⟩, ⟨rfl, rfl⟩, ⟨rfl, rfl⟩, ⟨rfl, rfl⟩, trivial⟩ ⟨.inr rfl, trivial⟩
        · skip
          have hj : ¬ (k + j < xs.length) := by have q := of_decide_eq_false h4; (try dsimp only at q); omega
          have hkj : k + j = xs.length := by omega
          have e : ys.take i = dd xs := by rw [j6, hkj, List.take_length]
          have e2 : i = (dd xs).length := by rw [j7, hkj, List.take_length]
          refine .exit ?_
          refine TE.pass ?_
          refine TE.pass ?_
          refine TE.here ?_
          refine .next ?_
          refine .seq ?_
          refine .region ?_
          refine .step rfl (.move rfl rfl) ?_
          refine .step rfl (.move rfl rfl) ?_
          refine .step rfl (.sliceo rfl rfl rfl rfl et25 rfl rfl (by omega) (by omega) (by omega) (by omega)) ?_
          refine .step rfl (.clear rfl rfl rfl rfl et25 zc35 rfl (by omega) rfl (by rw [flat_length it_len, Int.toNat_natCast]; exact Nat.mul_le_mul_right _ (by omega))) ?_
          refine .nil ?_
          refine TE.obj 0 (.mrow 0 35 64 ((dd xs).flatMap It.dv)) rfl (by rw [Int.toNat_natCast]; show AO.mrow 0 _ 64 ((ys.flatMap It.dv).take (i * 64)) = _; rw [Pl.flat_take it_len, e]) ?_
          refine .next ?_
          refine .seq ?_
          refine .region ?_
          refine .step rfl (.move rfl rfl) ?_
          refine .step rfl (.move rfl rfl) ?_
          refine .step rfl (.slicef rfl rfl rfl rfl et25 rfl rfl (by omega) (by omega)) ?_
          refine .step rfl (.assign rfl rfl) ?_
          refine .nil ?_
          refine TE.set 4 (.ow 0 (dd xs).length 64) rfl (by rw [Int.toNat_natCast]; first | done | rw [← e2]) ?_
          refine .next ?_
          refine .ret ?_
          exact TE.retm 0 rfl rfl rfl rfl rfl
      · skip
        have hal : ¬ alike xs[k] xs[k - 1] = true := by rw [Bool.not_eq_true]; exact h3
        refine .skip ?_
        refine TE.blk ?_
        refine .next ?_
        refine .region ?_
        refine .step rfl (.move rfl rfl) ?_
        refine .step rfl (.binv (.int .i64 ((k + 1 : Nat) : Int)) rfl rfl rfl rfl (congrArg _ (by (try dsimp only); rw [IntKind.wrap_i64]; omega))) ?_
        refine .step rfl (.assign rfl rfl) ?_
        refine .nil ?_
        refine TE.setv 5 (.int .i64 ((k + 1 : Nat) : Int)) rfl (congrArg _ (by first | rfl | (dsimp only; first | done | rfl | omega))) ?_
        exact TE.round id (fun _ _ e => e) (k + 1) ⟨by omega, by omega, by rw [dd_snoc k1 hk, if_neg hal, k3, take_snoc' hk]⟩ (by omega) ⟨⟨rfl, rfl⟩, ⟨rfl, rfl⟩, ⟨rfl, rfl⟩, trivial⟩ ⟨.inr rfl, trivial⟩
    · skip
      have hk : ¬ (k < xs.length) := by have q := of_decide_eq_false h2; (try dsimp only at q); omega
      have hkk : k = xs.length := by omega
      have e : dd xs = xs := by rw [hkk, List.take_length] at k3; exact k3
      refine .exit ?_
      refine TE.pass ?_
      refine TE.pass ?_
      refine TE.here ?_
      refine .next ?_
      refine .seq ?_
      refine .region ?_
      refine .step rfl (.move rfl rfl) ?_
      refine .step rfl (.assign rfl rfl) ?_
      refine .nil ?_
      refine .next ?_
      refine .ret ?_
      rw [e]
      exact TE.retm 0 rfl rfl rfl rfl rfl

end Go.Proofs.Ythbcbfghfhecjaa
