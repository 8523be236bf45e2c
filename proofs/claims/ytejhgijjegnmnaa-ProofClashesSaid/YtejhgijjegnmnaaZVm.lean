/-
  Bits of a hash: both sides. Neighbours that are alike. Lists joined. Below a place. Set of the program. The reference's Set.
-/
import Derived.Test.YtejhgijjegnmnaaZVg
import Derived.Test.YtejhgijjegnmnaaZQ3
namespace Go.Proofs.Ytejhgijjegnmnaa
set_option linter.unusedVariables false
set_option linter.unusedSimpArgs false
open Go.RowKit Pl
theorem tk5 : tyk Try.prog 5 = some none := by kernel_rfl
theorem uk5 : ukd Try.prog 5 = some .u8 := by kernel_rfl
set_option maxRecDepth 100000 in
set_option maxHeartbeats 1600000 in
theorem bit_pf (h : H) (i : Int) : PF Try.prog 35 [.ag (hdv h), .v (.int .i64 i)] (.v (.int .i64 (bitI h i))) := by
  refine PF.enter (fn := Try.f35) Try.func35 rfl Try.ntmps35 rfl (fun w0 => ?_)
  refine .seq ?_
  refine .region ?_
  refine .step rfl (.box 1 rfl rfl rfl rfl) ?_
  refine .step rfl (.assign rfl rfl) ?_
  refine .nil ?_
  refine .next ?_
  refine .seq ?_
  refine .seq ?_
  by_cases h0 : i < 0
  · skip
    have e : bitI h i = 0 := by unfold bitI; rw [if_pos h0]
    refine .region ?_
    refine .step rfl (.move rfl rfl) ?_
    refine .step rfl (.binv (.bool true) rfl rfl rfl rfl (congrArg Value.bool (decide_eq_true h0))) ?_
    refine .step rfl (.move rfl rfl) ?_
    refine .no 7 rfl rfl rfl rfl rfl rfl rfl ?_
    refine .no 7 rfl rfl rfl rfl rfl rfl rfl ?_
    refine .step rfl (.pick rfl rfl rfl) ?_
    refine .nil ?_
    refine .next ?_
    refine .cond rfl (fun h2 => ?_) (fun h2 => absurd h2 (by decide))
    refine .seq ?_
    refine .region ?_
    refine .step rfl (.assign rfl rfl) ?_
    refine .nil ?_
    refine .next ?_
    refine .ret ?_
    rw [e]
    exact TE.retf rfl rfl rfl trivial
  · skip
    by_cases h1 : i ≥ 256
    · skip
      have e : bitI h i = 0 := by unfold bitI; rw [if_neg h0, if_pos h1]
      refine .region ?_
      refine .step rfl (.move rfl rfl) ?_
      refine .step rfl (.binv (.bool false) rfl rfl rfl rfl (congrArg Value.bool (decide_eq_false h0))) ?_
      refine .step rfl (.move rfl rfl) ?_
      refine .go 7 rfl rfl rfl rfl (.move rfl rfl) ?_
      refine .go 7 rfl rfl rfl rfl (.binv (.bool true) rfl rfl rfl rfl (congrArg Value.bool (decide_eq_true h1))) ?_
      refine .step rfl (.pick rfl rfl rfl) ?_
      refine .nil ?_
      refine .next ?_
      refine .cond rfl (fun h4 => ?_) (fun h4 => absurd h4 (by decide))
      refine .seq ?_
      refine .region ?_
      refine .step rfl (.assign rfl rfl) ?_
      refine .nil ?_
      refine .next ?_
      refine .ret ?_
      rw [e]
      exact TE.retf rfl rfl rfl trivial
    · skip
      obtain ⟨k, rfl⟩ : ∃ k : Nat, i = k := ⟨i.toNat, by omega⟩
      have hk : k < 256 := by omega
      have e := bitI_nat h hk
      have hb := byteN_lt h (k / 8)
      have hs : byteN h (k / 8) / 2 ^ (7 - k % 8) < 256 := Nat.lt_of_le_of_lt (Nat.div_le_self _ _) hb
      refine .region ?_
      refine .step rfl (.move rfl rfl) ?_
      refine .step rfl (.binv (.bool false) rfl rfl rfl rfl (congrArg Value.bool (decide_eq_false h0))) ?_
      refine .step rfl (.move rfl rfl) ?_
      refine .go 7 rfl rfl rfl rfl (.move rfl rfl) ?_
      refine .go 7 rfl rfl rfl rfl (.binv (.bool false) rfl rfl rfl rfl (congrArg Value.bool (decide_eq_false h1))) ?_
      refine .step rfl (.pick rfl rfl rfl) ?_
      refine .nil ?_
      refine .next ?_
      refine .cond rfl (fun h5 => absurd h5 (by decide)) (fun h5 => ?_)
      refine .skip ?_
      refine .next ?_
      refine .seq ?_
      refine .region ?_
      refine .step rfl (.move rfl rfl) ?_
      refine .step rfl (.quo (((k / 8 : Nat) : Int)) rfl rfl rfl (by decide) (by rw [Int.tdiv_eq_ediv_of_nonneg (by omega), IntKind.wrap_i64]; omega)) ?_
      refine .step rfl (.idxp rfl rfl rfl rfl rfl ar25 (Int.natCast_nonneg _) (by omega)) ?_
      refine .step rfl (.ldp rfl rfl rfl rfl (by rw [Nat.mul_one, Nat.zero_add, Int.toNat_natCast]; exact hdv_byte h (by omega)) tk5) ?_
      refine .step rfl (.move rfl rfl) ?_
      refine .step rfl (.rem (((k % 8 : Nat) : Int)) rfl rfl rfl (by decide) (by rw [Int.tmod_eq_emod_of_nonneg (by omega)]; omega)) ?_
      refine .step rfl (.binv (.int .i64 ((7 - k % 8 : Nat) : Int)) rfl rfl rfl rfl (congrArg _ (by (try dsimp only); rw [IntKind.wrap_i64]; omega))) ?_
      refine .step rfl (.shr (((byteN h (k / 8) / 2 ^ (7 - k % 8) : Nat) : Int)) rfl rfl rfl (by omega) (shr_bit (by omega))) ?_
      refine .step rfl (.conviv (((byteN h (k / 8) / 2 ^ (7 - k % 8) : Nat) : Int)) rfl rfl uk5 uk3 (wrap_nat _ (Nat.le_trans (Nat.le_of_lt hs) (by decide)))) ?_
      refine .step rfl (.bits (((byteN h (k / 8) / 2 ^ (7 - k % 8) % 2 : Nat) : Int)) rfl rfl rfl rfl (and1_i64 _ hs)) ?_
      refine .step rfl (.assign rfl rfl) ?_
      refine .nil ?_
      refine .next ?_
      refine .ret ?_
      rw [e]
      exact TE.retf rfl rfl rfl trivial
set_option maxRecDepth 100000 in
set_option maxHeartbeats 1600000 in
theorem rbit_pf (h : H) (i : Int) : PF Try.prog 39 [.ag (hdv h), .v (.int .i64 i)] (.v (.int .i64 (bitI h i))) := by
  refine PF.enter (fn := Try.f39) Try.func39 rfl Try.ntmps39 rfl (fun w0 => ?_)
  refine .seq ?_
  refine .region ?_
  refine .step rfl (.box 1 rfl rfl rfl rfl) ?_
  refine .step rfl (.assign rfl rfl) ?_
  refine .nil ?_
  refine .next ?_
  refine .seq ?_
  refine .seq ?_
  by_cases h0 : i < 0
  · skip
    have e : bitI h i = 0 := by unfold bitI; rw [if_pos h0]
    refine .region ?_
    refine .step rfl (.move rfl rfl) ?_
    refine .step rfl (.binv (.bool true) rfl rfl rfl rfl (congrArg Value.bool (decide_eq_true h0))) ?_
    refine .step rfl (.move rfl rfl) ?_
    refine .no 7 rfl rfl rfl rfl rfl rfl rfl ?_
    refine .no 7 rfl rfl rfl rfl rfl rfl rfl ?_
    refine .step rfl (.pick rfl rfl rfl) ?_
    refine .nil ?_
    refine .next ?_
    refine .cond rfl (fun h2 => ?_) (fun h2 => absurd h2 (by decide))
    refine .seq ?_
    refine .region ?_
    refine .step rfl (.assign rfl rfl) ?_
    refine .nil ?_
    refine .next ?_
    refine .ret ?_
    rw [e]
    exact TE.retf rfl rfl rfl trivial
  · skip
    by_cases h1 : i ≥ 256
    · skip
      have e : bitI h i = 0 := by unfold bitI; rw [if_neg h0, if_pos h1]
      refine .region ?_
      refine .step rfl (.move rfl rfl) ?_
      refine .step rfl (.binv (.bool false) rfl rfl rfl rfl (congrArg Value.bool (decide_eq_false h0))) ?_
      refine .step rfl (.move rfl rfl) ?_
      refine .go 7 rfl rfl rfl rfl (.move rfl rfl) ?_
      refine .go 7 rfl rfl rfl rfl (.binv (.bool true) rfl rfl rfl rfl (congrArg Value.bool (decide_eq_true h1))) ?_
      refine .step rfl (.pick rfl rfl rfl) ?_
      refine .nil ?_
      refine .next ?_
      refine .cond rfl (fun h4 => ?_) (fun h4 => absurd h4 (by decide))
      refine .seq ?_
      refine .region ?_
      refine .step rfl (.assign rfl rfl) ?_
      refine .nil ?_
      refine .next ?_
      refine .ret ?_
      rw [e]
      exact TE.retf rfl rfl rfl trivial
    · skip
      obtain ⟨k, rfl⟩ : ∃ k : Nat, i = k := ⟨i.toNat, by omega⟩
      have hk : k < 256 := by omega
      have e := bitI_nat h hk
      have hb := byteN_lt h (k / 8)
      have hs : byteN h (k / 8) / 2 ^ (7 - k % 8) < 256 := Nat.lt_of_le_of_lt (Nat.div_le_self _ _) hb
      refine .region ?_
      refine .step rfl (.move rfl rfl) ?_
      refine .step rfl (.binv (.bool false) rfl rfl rfl rfl (congrArg Value.bool (decide_eq_false h0))) ?_
      refine .step rfl (.move rfl rfl) ?_
      refine .go 7 rfl rfl rfl rfl (.move rfl rfl) ?_
      refine .go 7 rfl rfl rfl rfl (.binv (.bool false) rfl rfl rfl rfl (congrArg Value.bool (decide_eq_false h1))) ?_
      refine .step rfl (.pick rfl rfl rfl) ?_
      refine .nil ?_
      refine .next ?_
      refine .cond rfl (fun h5 => absurd h5 (by decide)) (fun h5 => ?_)
      refine .skip ?_
      refine .next ?_
      refine .seq ?_
      refine .region ?_
      refine .step rfl (.move rfl rfl) ?_
      refine .step rfl (.quo (((k / 8 : Nat) : Int)) rfl rfl rfl (by decide) (by rw [Int.tdiv_eq_ediv_of_nonneg (by omega), IntKind.wrap_i64]; omega)) ?_
      refine .step rfl (.idxp rfl rfl rfl rfl rfl ar25 (Int.natCast_nonneg _) (by omega)) ?_
      refine .step rfl (.ldp rfl rfl rfl rfl (by rw [Nat.mul_one, Nat.zero_add, Int.toNat_natCast]; exact hdv_byte h (by omega)) tk5) ?_
      refine .step rfl (.move rfl rfl) ?_
      refine .step rfl (.rem (((k % 8 : Nat) : Int)) rfl rfl rfl (by decide) (by rw [Int.tmod_eq_emod_of_nonneg (by omega)]; omega)) ?_
      refine .step rfl (.binv (.int .i64 ((7 - k % 8 : Nat) : Int)) rfl rfl rfl rfl (congrArg _ (by (try dsimp only); rw [IntKind.wrap_i64]; omega))) ?_
      refine .step rfl (.shr (((byteN h (k / 8) / 2 ^ (7 - k % 8) : Nat) : Int)) rfl rfl rfl (by omega) (shr_bit (by omega))) ?_
      refine .step rfl (.bits (((byteN h (k / 8) / 2 ^ (7 - k % 8) % 2 : Nat) : Int)) rfl rfl rfl rfl (and1_u8 _ hs)) ?_
      refine .step rfl (.conviv (((byteN h (k / 8) / 2 ^ (7 - k % 8) % 2 : Nat) : Int)) rfl rfl uk5 uk3 (wrap_nat _ (Nat.le_trans (Nat.le_of_lt (Nat.mod_lt _ (by decide))) (by decide)))) ?_
      refine .step rfl (.assign rfl rfl) ?_
      refine .nil ?_
      refine .next ?_
      refine .ret ?_
      rw [e]
      exact TE.retf rfl rfl rfl trivial
theorem cf66 : cfn Try.prog 66 = true := by kernel_rfl
theorem qh25 : eqT Try.prog 25 = some hks := by kernel_rfl
theorem tk25 : tyk Try.prog 25 = some (some 32) := by kernel_rfl
theorem zc28 : zc Try.prog 28 = some [.int .u8 0, .int .u8 0, .int .u8 0, .int .u8 0, .int .u8 0, .int .u8 0, .int .u8 0, .int .u8 0, .int .u8 0, .int .u8 0, .int .u8 0, .int .u8 0, .int .u8 0, .int .u8 0, .int .u8 0, .int .u8 0, .int .u8 0, .int .u8 0, .int .u8 0, .int .u8 0, .int .u8 0, .int .u8 0, .int .u8 0, .int .u8 0, .int .u8 0, .int .u8 0, .int .u8 0, .int .u8 0, .int .u8 0, .int .u8 0, .int .u8 0, .int .u8 0, .int .u8 0, .int .u8 0, .int .u8 0, .int .u8 0, .int .u8 0, .int .u8 0, .int .u8 0, .int .u8 0, .int .u8 0, .int .u8 0, .int .u8 0, .int .u8 0, .int .u8 0, .int .u8 0, .int .u8 0, .int .u8 0, .int .u8 0, .int .u8 0, .int .u8 0, .int .u8 0, .int .u8 0, .int .u8 0, .int .u8 0, .int .u8 0, .int .u8 0, .int .u8 0, .int .u8 0, .int .u8 0, .int .u8 0, .int .u8 0, .int .u8 0, .int .u8 0] := by kernel_rfl
set_option maxRecDepth 100000 in
set_option maxHeartbeats 1600000 in
theorem alike_pf (x y : It) : PF Try.prog 66 [.ag x.dv, .ag y.dv] (.v (.bool (alike x y))) := by
  refine PF.enter (fn := Try.f66) Try.func66 rfl Try.ntmps66 rfl (fun w0 => ?_)
  refine .seq ?_
  refine .region ?_
  refine .step rfl (.box 1 rfl rfl rfl rfl) ?_
  refine .step rfl (.box 2 rfl rfl rfl rfl) ?_
  refine .step rfl (.assign rfl rfl) ?_
  refine .nil ?_
  refine TE.frzb 2 rfl rfl rfl rfl ?_
  refine TE.frzb 3 rfl rfl rfl rfl ?_
  refine .next ?_
  refine .seq ?_
  refine .region ?_
  refine .step rfl (.fielde rfl rfl rfl fo28_0) ?_
  refine .step rfl (.ldem (ds := hdv x.ix) rfl rfl rfl rfl rfl tk25) ?_
  refine .step rfl (.fielde rfl rfl rfl fo28_0) ?_
  refine .step rfl (.ldem (ds := hdv y.ix) rfl rfl rfl rfl rfl tk25) ?_
  refine .step rfl (.eqh (a := x.ix) (b := y.ix) rfl rfl rfl qh25) ?_
  refine .step rfl (.assign rfl rfl) ?_
  refine .nil ?_
  refine .next ?_
  refine .ret ?_
  exact TE.retf rfl rfl rfl trivial
set_option maxRecDepth 100000 in
set_option maxHeartbeats 1600000 in
theorem compact_pm (xs : List It) (hx : xs.length ≤ 1048576) : PM Try.prog 65 [.ow 0 xs.length 64, .d (.fn (.func 66) [] [])] (.mrow 0 28 64 ((xs).flatMap It.dv)) (.mrow 0 28 64 ((dd xs).flatMap It.dv)) (.ow 0 (dd xs).length 64) := by
  refine PM.enter (fn := Try.f65) Try.func65 rfl Try.ntmps65 rfl rfl rfl (fun w0 K0 ob => ?_)
  refine .seq ?_
  refine .region ?_
  refine .step rfl (.assign rfl rfl) ?_
  refine .nil ?_
  refine .next ?_
  refine .seq ?_
  refine .seq ?_
  refine .region ?_
  refine .step rfl (.move rfl rfl) ?_
  refine .step rfl (.leno rfl rfl rfl is32) ?_
  refine .step rfl (.bin rfl rfl rfl rfl) ?_
  refine .nil ?_
  refine .next ?_
  refine .cond rfl (fun h1 => ?_) (fun h1 => ?_)
  · skip
    have hn : xs.length < 2 := by have q := of_decide_eq_true h1; (try dsimp only at q); omega
    have e : dd xs = xs := dd_one hn
    refine .seq ?_
    refine .region ?_
    refine .step rfl (.move rfl rfl) ?_
    refine .step rfl (.assign rfl rfl) ?_
    refine .nil ?_
    refine .next ?_
    refine .ret ?_
    rw [e]
    exact TE.retm 0 rfl rfl rfl rfl rfl
  · skip
    have hn : ¬ (xs.length < 2) := by have q := of_decide_eq_false h1; (try dsimp only at q); omega
    refine .skip ?_
    refine .next ?_
    refine .seq ?_
    refine .seq ?_
    refine .region ?_
    refine .step rfl (.assign rfl rfl) ?_
    refine .nil ?_
    refine TE.setv 5 (.int .i64 ((1 : Nat) : Int)) rfl (congrArg _ (by first | rfl | (dsimp only; first | done | rfl | omega))) ?_
    refine .next ?_
    refine .block ?_
    refine TC.loop (S := Nat) (fun k => 1 ≤ k ∧ k ≤ xs.length ∧ dd (xs.take k) = xs.take k) (fun k => xs.length - k) (fun k => [(0, .ow 0 xs.length 64), (1, .d (.fn (.func 66) [] [])), (5, .d (.v (.int .i64 ((k : Nat) : Int))))]) (fun k => [(0, .mrow 0 28 64 ((xs).flatMap It.dv))]) (1) ⟨Nat.le_refl _, by omega, dd_one (by simp; omega)⟩ ⟨⟨rfl, rfl⟩, ⟨rfl, rfl⟩, ⟨rfl, rfl⟩, trivial⟩ ⟨.inr rfl, trivial⟩ (fun k hI => ?_)
    obtain ⟨k1, k2, k3⟩ := hI
    refine .seq ?_
    refine .seq ?_
    refine .region ?_
    refine .step rfl (.move rfl rfl) ?_
    refine .step rfl (.move rfl rfl) ?_
    refine .step rfl (.leno rfl rfl rfl is32) ?_
    refine .step rfl (.bin rfl rfl rfl rfl) ?_
    refine .nil ?_
    refine .next ?_
    refine .cond rfl (fun h2 => ?_) (fun h2 => ?_)
    · skip
      have hk : k < xs.length := by have q := of_decide_eq_true h2; (try dsimp only at q); omega
      refine .skip ?_
      refine .next ?_
      refine .seq ?_
      refine .block ?_
      refine .seq ?_
      refine .draw mixed [Ro.mk _ (Eff.mk (some (18, _)) []) [], Ro.mk _ (Eff.mk (some (19, _)) []) [], Ro.mk _ (Eff.mk (some (20, _)) []) [], Ro.mk _ (Eff.mk (some (21, _)) []) [0], Ro.mk _ (Eff.mk (some (22, _)) []) [0], Ro.mk _ (Eff.mk (some (23, _)) []) [], Ro.mk _ (Eff.mk (some (24, _)) []) [], Ro.mk _ (Eff.mk (some (25, _)) []) [], Ro.mk _ (Eff.mk (some (26, _)) []) [0], Ro.mk _ (Eff.mk (some (27, _)) []) [0], Ro.mk _ (Eff.mk (some (28, _)) []) []] rfl ⟨(fun _ _ => .move rfl rfl), (fun _ _ => .move rfl rfl), (fun _ _ => .move rfl rfl), (fun _ _ => .idxo rfl rfl rfl rfl rfl et32 (Int.natCast_nonneg _) (by omega)), (fun _ _ => .ldpm rfl rfl rfl rfl (flat_at it_len xs (hk)) (it_len _) tk28), (fun _ _ => .move rfl rfl), (fun _ _ => .move rfl rfl), (fun _ _ => .binv (.int .i64 ((k - 1 : Nat) : Int)) rfl rfl rfl rfl (congrArg _ (by (try dsimp only); rw [IntKind.wrap_i64]; omega))), (fun _ _ => .idxo rfl rfl rfl rfl rfl et32 (Int.natCast_nonneg _) (by omega)), (fun _ _ => .ldpm rfl rfl rfl rfl (flat_at it_len xs (show k - 1 < xs.length by omega)) (it_len _) tk28), (fun _ _ => .callvf0 rfl rfl cf66 rfl ⟨trivial, trivial, trivial⟩ (alike_pf (xs[k]) (xs[k - 1]))), trivial⟩ (by kernel_rfl) ?_
      refine .next ?_
      refine .cond rfl (fun h3 => ?_) (fun h3 => ?_)
      · skip
        have hal : alike xs[k] xs[k - 1] = true := h3
        refine .seq ?_
        refine .region ?_
        refine .step rfl (.move rfl rfl) ?_
        refine .step rfl (.move rfl rfl) ?_
        refine .step rfl (.sliceo rfl rfl rfl rfl et32 rfl rfl (by omega) (by omega) (by omega) (by omega)) ?_
        refine .step rfl (.assign rfl rfl) ?_
        refine .nil ?_
        refine TE.set 6 (.bs 0 (k * 64) (xs.length - k) 64) rfl (by simp) ?_
        refine .next ?_
        refine .seq ?_
        refine .seq ?_
        refine .region ?_
        refine .step rfl (.assign rfl rfl) ?_
        refine .nil ?_
        refine TE.setv 7 (.int .i64 ((1 : Nat) : Int)) rfl (congrArg _ (by first | rfl | (dsimp only; first | done | rfl | omega))) ?_
        refine .next ?_
        refine .block ?_
        refine TC.loop (S := Nat × Nat × List It) (fun s => 1 ≤ s.1 ∧ k + s.1 ≤ xs.length ∧ s.2.1 + 1 ≤ k + s.1 ∧ s.2.2.length = xs.length ∧ s.2.2.drop (k + s.1 - 1) = xs.drop (k + s.1 - 1) ∧ s.2.2.take s.2.1 = dd (xs.take (k + s.1)) ∧ s.2.1 = (dd (xs.take (k + s.1))).length) (fun s => xs.length - k - s.1) (fun s => [(0, .ow 0 xs.length 64), (1, .d (.fn (.func 66) [] [])), (5, .d (.v (.int .i64 ((s.2.1 : Nat) : Int)))), (6, .bs 0 (k * 64) (xs.length - k) 64), (7, .d (.v (.int .i64 ((s.1 : Nat) : Int))))]) (fun s => [(0, .mrow 0 28 64 ((s.2.2).flatMap It.dv))]) ((1, k, xs)) ⟨Nat.le_refl _, by show k + 1 ≤ _; omega, Nat.le_refl _, rfl, rfl, by show xs.take k = _; rw [dd_snoc k1 hk, if_pos hal, k3], by show k = _; rw [dd_snoc k1 hk, if_pos hal, k3]; simp; omega⟩ ⟨⟨rfl, rfl⟩, ⟨rfl, rfl⟩, ⟨rfl, rfl⟩, ⟨rfl, rfl⟩, ⟨rfl, rfl⟩, trivial⟩ ⟨.inr rfl, trivial⟩ (fun s hI => ?_)
        obtain ⟨j, i, ys⟩ := s
        obtain ⟨j1, j2, j3, j4, j5, j6, j7⟩ := hI
        have j1 : 1 ≤ j := j1
        have j2 : k + j ≤ xs.length := j2
        have j3 : i + 1 ≤ k + j := j3
        have j4 : ys.length = xs.length := j4
        have j5 : ys.drop (k + j - 1) = xs.drop (k + j - 1) := j5
        have j6 : ys.take i = dd (xs.take (k + j)) := j6
        have j7 : i = (dd (xs.take (k + j))).length := j7
        refine .seq ?_
        refine .seq ?_
        refine .region ?_
        refine .step rfl (.move rfl rfl) ?_
        refine .step rfl (.move rfl rfl) ?_
        refine .step rfl (.lenb rfl rfl rfl rfl is32) ?_
        refine .step rfl (.bin rfl rfl rfl rfl) ?_
        refine .nil ?_
        refine .next ?_
        refine .cond rfl (fun h4 => ?_) (fun h4 => ?_)
        · skip
          have hj : k + j < xs.length := by have q := of_decide_eq_true h4; (try dsimp only at q); omega
          have hy1 : k + j < ys.length := by omega
          have hy2 : k + (j - 1) < ys.length := by omega
          have hy3 : k + j - 1 < ys.length := by omega
          have he1 : ys[k + j] = xs[k + j] := get_drop j5 (by omega) hy1 hj
          have he2 : ys[k + (j - 1)] = xs[k + j - 1] := by rw [get_same (show k + (j - 1) = k + j - 1 by omega) hy2 hy3]; exact get_drop j5 (Nat.le_refl _) hy3 (by omega)
          refine .skip ?_
          refine .next ?_
          refine .seq ?_
          refine .block ?_
          refine .seq ?_
          refine .draw mixed [Ro.mk _ (Eff.mk (some (38, _)) []) [], Ro.mk _ (Eff.mk (some (39, _)) []) [], Ro.mk _ (Eff.mk (some (40, _)) []) [], Ro.mk _ (Eff.mk (some (41, _)) []) [0], Ro.mk _ (Eff.mk (some (42, _)) []) [0], Ro.mk _ (Eff.mk (some (43, _)) []) [], Ro.mk _ (Eff.mk (some (44, _)) []) [], Ro.mk _ (Eff.mk (some (45, _)) []) [], Ro.mk _ (Eff.mk (some (46, _)) []) [0], Ro.mk _ (Eff.mk (some (47, _)) []) [0], Ro.mk _ (Eff.mk (some (48, _)) []) [], Ro.mk _ (Eff.mk (some (49, _)) []) []] rfl ⟨(fun _ _ => .move rfl rfl), (fun _ _ => .move rfl rfl), (fun _ _ => .move rfl rfl), (fun _ _ => .idxb rfl rfl rfl rfl rfl et32 (Int.natCast_nonneg _) (by omega)), (fun _ _ => .ldpm rfl rfl rfl rfl (by rw [show k * 64 + (((j : Nat) : Int)).toNat * 64 = (k + (j)) * 64 by (try rw [Int.toNat_natCast]); omega]; exact flat_at it_len ys (hy1)) (it_len _) tk28), (fun _ _ => .move rfl rfl), (fun _ _ => .move rfl rfl), (fun _ _ => .binv (.int .i64 ((j - 1 : Nat) : Int)) rfl rfl rfl rfl (congrArg _ (by (try dsimp only); rw [IntKind.wrap_i64]; omega))), (fun _ _ => .idxb rfl rfl rfl rfl rfl et32 (Int.natCast_nonneg _) (by omega)), (fun _ _ => .ldpm rfl rfl rfl rfl (by rw [show k * 64 + (((j - 1 : Nat) : Int)).toNat * 64 = (k + (j - 1)) * 64 by (try rw [Int.toNat_natCast]); omega]; exact flat_at it_len ys (hy2)) (it_len _) tk28), (fun _ _ => .callvf0 rfl rfl cf66 rfl ⟨trivial, trivial, trivial⟩ (alike_pf (ys[k + j]) (ys[k + (j - 1)]))), (fun _ _ => .un rfl rfl rfl), trivial⟩ (by kernel_rfl) ?_
          refine .next ?_
          refine .cond rfl (fun h5 => ?_) (fun h5 => ?_)
          · skip
            have hna : ¬ alike ys[k + j] ys[k + (j - 1)] = true := by simpa using h5
            refine .seq ?_
            refine .region ?_
            refine .step rfl (.move rfl rfl) ?_
            refine .step rfl (.move rfl rfl) ?_
            refine .step rfl (.move rfl rfl) ?_
            refine .step rfl (.move rfl rfl) ?_
            refine .step rfl (.idxb rfl rfl rfl rfl rfl et32 (Int.natCast_nonneg _) (by omega)) ?_
            refine .step rfl (.ldpm rfl rfl rfl rfl (by rw [show k * 64 + (((j : Nat) : Int)).toNat * 64 = (k + (j)) * 64 by (try rw [Int.toNat_natCast]); omega]; exact flat_at it_len ys (hy1)) (it_len _) tk28) ?_
            refine .step rfl (.idxo rfl rfl rfl rfl rfl et32 (Int.natCast_nonneg _) (by omega)) ?_
            refine .step rfl (.storerm (xs := ys) (enc := It.dv) (ys[k + j]) rfl rfl rfl rfl rfl rfl (fun _ => rfl) sz28 rfl (by omega)) ?_
            refine .nil ?_
            refine TE.obj 0 (.mrow 0 28 64 ((ys.set i ys[k + j]).flatMap It.dv)) rfl rfl ?_
            refine .next ?_
            refine .region ?_
            refine .step rfl (.move rfl rfl) ?_
            refine .step rfl (.binv (.int .i64 ((i + 1 : Nat) : Int)) rfl rfl rfl rfl (congrArg _ (by (try dsimp only); rw [IntKind.wrap_i64]; omega))) ?_
            refine .step rfl (.assign rfl rfl) ?_
            refine .nil ?_
            refine TE.blk ?_
            refine .next ?_
            refine .region ?_
            refine .step rfl (.move rfl rfl) ?_
            refine .step rfl (.binv (.int .i64 ((j + 1 : Nat) : Int)) rfl rfl rfl rfl (congrArg _ (by (try dsimp only); rw [IntKind.wrap_i64]; omega))) ?_
            refine .step rfl (.assign rfl rfl) ?_
            refine .nil ?_
            refine TE.setv 7 (.int .i64 ((j + 1 : Nat) : Int)) rfl (congrArg _ (by first | rfl | (dsimp only; first | done | rfl | omega))) ?_
            refine TE.setv 5 (.int .i64 ((i + 1 : Nat) : Int)) rfl (congrArg _ (by first | rfl | (dsimp only; first | done | rfl | omega))) ?_
            exact TE.round id (fun _ _ e => e) ((j + 1, i + 1, ys.set i ys[k + j])) ⟨by show 1 ≤ j + 1; omega, by show k + (j + 1) ≤ _; omega, by show i + 1 + 1 ≤ k + (j + 1); omega, by show (ys.set i ys[k + j]).length = _; rw [List.length_set]; exact j4, by show (ys.set i ys[k + j]).drop (k + (j + 1) - 1) = _; rw [List.drop_set_of_lt (by omega)]; exact drop_more j5, by show (ys.set i ys[k + j]).take (i + 1) = dd (xs.take (k + j + 1)); rw [dd_snoc (by omega) hj, if_neg (by rw [← he1, ← he2]; exact hna), ← j6, ← he1]; exact take_set_snoc (by omega), by show i + 1 = (dd (xs.take (k + j + 1))).length; rw [dd_snoc (by omega) hj, if_neg (by rw [← he1, ← he2]; exact hna), List.length_append, ← j7]; rfl⟩ (by show _ - k - (j + 1) < _ - k - j; omega) ⟨⟨rfl, rfl⟩, ⟨rfl, rfl⟩, ⟨rfl, rfl⟩, ⟨rfl, rfl⟩, ⟨rfl, rfl⟩, trivial⟩ ⟨.inr rfl, trivial⟩
          · skip
            have hna : alike ys[k + j] ys[k + (j - 1)] = true := by simpa using h5
            refine .skip ?_
            refine TE.blk ?_
            refine .next ?_
            refine .region ?_
            refine .step rfl (.move rfl rfl) ?_
            refine .step rfl (.binv (.int .i64 ((j + 1 : Nat) : Int)) rfl rfl rfl rfl (congrArg _ (by (try dsimp only); rw [IntKind.wrap_i64]; omega))) ?_
            refine .step rfl (.assign rfl rfl) ?_
            refine .nil ?_
            refine TE.setv 7 (.int .i64 ((j + 1 : Nat) : Int)) rfl (congrArg _ (by first | rfl | (dsimp only; first | done | rfl | omega))) ?_
            exact TE.round id (fun _ _ e => e) ((j + 1, i, ys)) ⟨by show 1 ≤ j + 1; omega, by show k + (j + 1) ≤ _; omega, by show i + 1 ≤ k + (j + 1); omega, j4, drop_more j5, by show ys.take i = dd (xs.take (k + j + 1)); rw [dd_snoc (by omega) hj, if_pos (by rw [← he1, ← he2]; exact hna)]; exact j6, by show i = (dd (xs.take (k + j + 1))).length; rw [dd_snoc (by omega) hj, if_pos (by rw [← he1, ← he2]; exact hna)]; exact j7⟩ (by show _ - k - (j + 1) < _ - k - j; omega) ⟨⟨rfl, rfl⟩, ⟨rfl, rfl⟩, ⟨rfl, rfl⟩, ⟨rfl, rfl⟩, ⟨rfl, rfl⟩, trivial⟩ ⟨.inr rfl, trivial⟩
        · skip
          have hj : ¬ (k + j < xs.length) := by have q := of_decide_eq_false h4; (try dsimp only at q); omega
          have hkj : k + j = xs.length := by omega
          have e : ys.take i = dd xs := by rw [j6, hkj, List.take_length]
          have e2 : i = (dd xs).length := by rw [j7, hkj, List.take_length]
          refine .exit ?_
          refine TE.pass ?_
          refine TE.pass ?_
          refine TE.here ?_
          refine .next ?_
          refine .seq ?_
          refine .region ?_
          refine .step rfl (.move rfl rfl) ?_
          refine .step rfl (.move rfl rfl) ?_
          refine .step rfl (.sliceo rfl rfl rfl rfl et32 rfl rfl (by omega) (by omega) (by omega) (by omega)) ?_
          refine .step rfl (.clear rfl rfl rfl rfl et32 zc28 rfl (by omega) rfl (by rw [flat_length it_len, Int.toNat_natCast]; exact Nat.mul_le_mul_right _ (by omega))) ?_
          refine .nil ?_
          refine TE.obj 0 (.mrow 0 28 64 ((dd xs).flatMap It.dv)) rfl (by rw [Int.toNat_natCast]; show AO.mrow 0 _ 64 ((ys.flatMap It.dv).take (i * 64)) = _; rw [Pl.flat_take it_len, e]) ?_
          refine .next ?_
          refine .seq ?_
          refine .region ?_
          refine .step rfl (.move rfl rfl) ?_
          refine .step rfl (.move rfl rfl) ?_
          refine .step rfl (.slicef rfl rfl rfl rfl et32 rfl rfl (by omega) (by omega)) ?_
          refine .step rfl (.assign rfl rfl) ?_
          refine .nil ?_
          refine TE.set 4 (.ow 0 (dd xs).length 64) rfl (by rw [Int.toNat_natCast]; first | done | rw [← e2]) ?_
          refine .next ?_
          refine .ret ?_
          exact TE.retm 0 rfl rfl rfl rfl rfl
      · skip
        have hal : ¬ alike xs[k] xs[k - 1] = true := by rw [Bool.not_eq_true]; exact h3
        refine .skip ?_
        refine TE.blk ?_
        refine .next ?_
        refine .region ?_
        refine .step rfl (.move rfl rfl) ?_
        refine .step rfl (.binv (.int .i64 ((k + 1 : Nat) : Int)) rfl rfl rfl rfl (congrArg _ (by (try dsimp only); rw [IntKind.wrap_i64]; omega))) ?_
        refine .step rfl (.assign rfl rfl) ?_
        refine .nil ?_
        refine TE.setv 5 (.int .i64 ((k + 1 : Nat) : Int)) rfl (congrArg _ (by first | rfl | (dsimp only; first | done | rfl | omega))) ?_
        exact TE.round id (fun _ _ e => e) (k + 1) ⟨by omega, by omega, by rw [dd_snoc k1 hk, if_neg hal, k3, take_snoc' hk]⟩ (by omega) ⟨⟨rfl, rfl⟩, ⟨rfl, rfl⟩, ⟨rfl, rfl⟩, trivial⟩ ⟨.inr rfl, trivial⟩
    · skip
      have hk : ¬ (k < xs.length) := by have q := of_decide_eq_false h2; (try dsimp only at q); omega
      have hkk : k = xs.length := by omega
      have e : dd xs = xs := by rw [hkk, List.take_length] at k3; exact k3
      refine .exit ?_
      refine TE.pass ?_
      refine TE.pass ?_
      refine TE.here ?_
      refine .next ?_
      refine .seq ?_
      refine .region ?_
      refine .step rfl (.move rfl rfl) ?_
      refine .step rfl (.assign rfl rfl) ?_
      refine .nil ?_
      refine .next ?_
      refine .ret ?_
      rw [e]
      exact TE.retm 0 rfl rfl rfl rfl rfl
theorem ap32 : apt Try.prog 32 = some (28, 64, 64) := by kernel_rfl
theorem cf86 : cfn Try.prog 86 = true := by kernel_rfl
theorem et118 : elt Try.prog 118 = some (32, 1) := by kernel_rfl
theorem is118 : isSl Try.prog 118 = some true := by kernel_rfl
theorem tk32 : tyk Try.prog 32 = some none := by kernel_rfl
set_option maxRecDepth 100000 in
set_option maxHeartbeats 1600000 in
theorem grow_po (n : Nat) (hn : n ≤ 1048576) : PO Try.prog 86 [.v (.slice none 0 0), .v (.int .i64 n)] 28 64 0 [] := by
  refine PO.enter (fn := Try.f86) Try.func86 rfl Try.ntmps86 rfl (fun w0 => ?_)
  refine .seq ?_
  refine .region ?_
  refine .step rfl (.assign rfl rfl) ?_
  refine .nil ?_
  refine .next ?_
  refine .seq ?_
  refine .seq ?_
  refine .region ?_
  refine .step rfl (.move rfl rfl) ?_
  refine .step rfl (.bin rfl rfl rfl rfl) ?_
  refine .nil ?_
  refine .next ?_
  refine .cond rfl (fun h1 => absurd (of_decide_eq_true h1) (by (try dsimp only); omega)) (fun h1 => ?_)
  refine .skip ?_
  refine .next ?_
  refine .seq ?_
  refine .seq ?_
  refine .region ?_
  refine .step rfl (.move rfl rfl) ?_
  refine .step rfl (.move rfl rfl) ?_
  refine .step rfl (.cap0 rfl rfl et32) ?_
  refine .step rfl (.move rfl rfl) ?_
  refine .step rfl (.len0 rfl rfl is32) ?_
  refine .step rfl (.binv (.int .i64 0) rfl rfl rfl rfl (rfl)) ?_
  refine .step rfl (.binv (.int .i64 ((n : Nat) : Int)) rfl rfl rfl rfl (congrArg _ (by (try dsimp only); rw [IntKind.wrap_i64]; omega))) ?_
  refine .step rfl (.assign rfl rfl) ?_
  refine .nil ?_
  refine .next ?_
  refine .seq ?_
  refine .region ?_
  refine .step rfl (.move rfl rfl) ?_
  refine .step rfl (.bin rfl rfl rfl rfl) ?_
  refine .nil ?_
  refine .next ?_
  refine .cond rfl (fun h2 => ?_) (fun h2 => ?_)
  · skip
    have h0 : 0 < n := by have q := of_decide_eq_true h2; (try dsimp only at q); omega
    refine .region ?_
    refine .step rfl (.move rfl rfl) ?_
    refine .step rfl (.move rfl rfl) ?_
    refine .step rfl (.cap0 rfl rfl et32) ?_
    refine .step rfl (.slice0 rfl rfl et32 rfl rfl) ?_
    refine .step rfl (.move rfl rfl) ?_
    refine .step rfl (.grow0 1 rfl rfl rfl rfl ap32 uk3 zc28 rfl h0 (by omega) (by unfold maxLen; omega)) ?_
    refine .step rfl (.move rfl rfl) ?_
    refine .step rfl (.len0 rfl rfl is32) ?_
    refine .step rfl (.slicef rfl rfl rfl rfl et32 rfl rfl (by omega) (by omega)) ?_
    refine .step rfl (.assign rfl rfl) ?_
    refine .nil ?_
    refine .next ?_
    refine .seq ?_
    refine .region ?_
    refine .step rfl (.move rfl rfl) ?_
    refine .step rfl (.assign rfl rfl) ?_
    refine .nil ?_
    refine .next ?_
    refine .ret ?_
    exact TE.retof rfl rfl rfl rfl (by decide) pl_nil
  · skip
    have h0 : ¬ (0 < n) := by have q := of_decide_eq_false h2; (try dsimp only at q); omega
    refine .skip ?_
    refine .next ?_
    refine .seq ?_
    refine .region ?_
    refine .step rfl (.move rfl rfl) ?_
    refine .step rfl (.assign rfl rfl) ?_
    refine .nil ?_
    refine TE.own0 4 2 28 64 rfl rfl ?_
    refine .next ?_
    refine .ret ?_
    exact TE.retof rfl rfl rfl rfl (by decide) pl_nil
set_option maxRecDepth 100000 in
set_option maxHeartbeats 1600000 in
theorem concat_po (xss : List (List It)) (hl : xss.length ≤ 1048576) (hx : xss.flatten.length ≤ 1048576) : PO Try.prog 60 [slT ildv 1 xss] 28 64 xss.flatten.length (xss.flatten.flatMap It.dv) := by
  refine PO.enter (fn := Try.f60) Try.func60 rfl Try.ntmps60 rfl (fun w0 => ?_)
  refine .seq ?_
  refine .region ?_
  refine .step rfl (.assign rfl rfl) ?_
  refine .nil ?_
  refine .next ?_
  refine .seq ?_
  refine .region ?_
  refine .step rfl (.assign rfl rfl) ?_
  refine .nil ?_
  refine TE.setv 3 (.int .i64 ((((xss.take (0)).flatten.length : Nat) : Nat) : Int)) rfl (congrArg _ (by first | rfl | (dsimp only; first | done | rfl | omega))) ?_
  refine .next ?_
  refine .seq ?_
  refine .seq ?_
  refine .region ?_
  refine .step rfl (.move rfl rfl) ?_
  refine .step rfl (.len rfl rfl ⟨_, _, rfl⟩ is118) ?_
  refine .step rfl (.move rfl rfl) ?_
  refine .nil ?_
  refine TE.setv 11 (.int .i64 ((0 : Nat) : Int)) rfl (congrArg _ (by first | rfl | (dsimp only; first | done | rfl | omega))) ?_
  refine .next ?_
  refine .block ?_
  refine TC.loop (S := Nat) (fun i => i ≤ xss.length) (fun i => xss.length - i) (fun i => [(0, .d (slT ildv 1 xss)), (3, .d (.v (.int .i64 ((((xss.take (i)).flatten.length : Nat) : Nat) : Int)))), (9, .d (slT ildv 1 xss)), (10, .f (.v (.int .i64 ((xss.length : Nat) : Int)))), (11, .d (.v (.int .i64 ((i : Nat) : Int))))]) (fun i => []) (0) (Nat.zero_le _) ⟨⟨rfl, rfl⟩, ⟨rfl, rfl⟩, ⟨rfl, rfl⟩, ⟨rfl, rfl⟩, ⟨rfl, rfl⟩, trivial⟩ trivial (fun i hI => ?_)
  refine .seq ?_
  refine .region ?_
  refine .step rfl (.bin rfl rfl rfl rfl) ?_
  refine .nil ?_
  refine .next ?_
  refine .seq ?_
  refine .cond rfl (fun h1 => ?_) (fun h1 => ?_)
  · skip
    have h : i < xss.length := by have q := of_decide_eq_true h1; (try dsimp only at q); omega
    have h2 := flat_take_len h
    have h3 := flat_take_le xss (i + 1)
    refine .skip ?_
    refine .next ?_
    refine .seq ?_
    refine .block ?_
    refine .seq ?_
    refine .region ?_
    refine .step rfl (.idx (xss[i]) rfl rfl rfl rfl et118 (fun _ => rfl) (Int.natCast_nonneg _) (get_nat h)) ?_
    refine .step rfl (.lde rfl rfl rfl rfl tk32) ?_
    refine .step rfl (.assign rfl rfl) ?_
    refine .nil ?_
    refine .next ?_
    refine .seq ?_
    refine .region ?_
    refine .step rfl (.move rfl rfl) ?_
    refine .step rfl (.move rfl rfl) ?_
    refine .step rfl (.len rfl rfl ⟨_, _, rfl⟩ is32) ?_
    refine .step rfl (.binv (.int .i64 ((((xss.take (i + 1)).flatten.length : Nat) : Nat) : Int)) rfl rfl rfl rfl (congrArg _ (by (try dsimp only); rw [IntKind.wrap_i64]; omega))) ?_
    refine .step rfl (.assign rfl rfl) ?_
    refine .nil ?_
    refine .next ?_
    refine .seq ?_
    refine .region ?_
    refine .step rfl (.move rfl rfl) ?_
    refine .step rfl (.bin rfl rfl rfl rfl) ?_
    refine .nil ?_
    refine .next ?_
    refine .cond rfl (fun h2 => absurd (of_decide_eq_true h2) (by (try dsimp only); omega)) (fun h2 => ?_)
    refine .skip ?_
    refine TE.blk ?_
    refine .next ?_
    refine .region ?_
    refine .step rfl (.binv (.int .i64 ((i + 1 : Nat) : Int)) rfl rfl rfl rfl (congrArg _ (by (try dsimp only); rw [IntKind.wrap_i64]; omega))) ?_
    refine .step rfl (.move rfl rfl) ?_
    refine .nil ?_
    refine TE.setv 3 (.int .i64 ((((xss.take (i + 1)).flatten.length : Nat) : Nat) : Int)) rfl (congrArg _ (by first | rfl | (dsimp only; first | done | rfl | omega))) ?_
    refine TE.setv 11 (.int .i64 ((i + 1 : Nat) : Int)) rfl (congrArg _ (by first | rfl | (dsimp only; first | done | rfl | omega))) ?_
    exact TE.round id (fun _ _ e => e) (i + 1) (by omega) (by omega) ⟨⟨rfl, rfl⟩, ⟨rfl, rfl⟩, ⟨rfl, rfl⟩, ⟨rfl, rfl⟩, ⟨rfl, rfl⟩, trivial⟩ trivial
  · skip
    have h : ¬ (i < xss.length) := by have q := of_decide_eq_false h1; (try dsimp only at q); omega
    have hi : i = xss.length := by have : i ≤ xss.length := hI; omega
    refine .exit ?_
    refine TE.pass ?_
    refine TE.pass ?_
    refine TE.here ?_
    refine .next ?_
    refine .seq ?_
    refine .region ?_
    refine .step rfl (.move rfl rfl) ?_
    refine .step rfl (.callo 1 rfl rfl cf86 rfl ⟨trivial, trivial, trivial⟩ (grow_po ((xss.take (i)).flatten.length : Nat) (Nat.le_trans (flat_take_le xss i) hx))) ?_
    refine .step rfl (.assign rfl rfl) ?_
    refine .nil ?_
    refine TE.set 6 (.ow 1 ((xss.take (0)).flatten.length : Nat) 64) rfl rfl ?_
    refine .next ?_
    refine .seq ?_
    refine .seq ?_
    refine .region ?_
    refine .step rfl (.move rfl rfl) ?_
    refine .step rfl (.len rfl rfl ⟨_, _, rfl⟩ is118) ?_
    refine .step rfl (.move rfl rfl) ?_
    refine .nil ?_
    refine TE.setv 27 (.int .i64 ((0 : Nat) : Int)) rfl (congrArg _ (by first | rfl | (dsimp only; first | done | rfl | omega))) ?_
    refine TE.obj 1 (.row 28 64 ((xss.take 0).flatten.flatMap It.dv)) rfl rfl ?_
    refine .next ?_
    refine .block ?_
    refine TC.loop (S := Nat) (fun i => i ≤ xss.length) (fun i => xss.length - i) (fun i => [(0, .d (slT ildv 1 xss)), (6, .ow 1 ((xss.take (i)).flatten.length : Nat) 64), (25, .d (slT ildv 1 xss)), (26, .f (.v (.int .i64 ((xss.length : Nat) : Int)))), (27, .d (.v (.int .i64 ((i : Nat) : Int))))]) (fun i => [(1, .row 28 64 ((xss.take i).flatten.flatMap It.dv))]) (0) (Nat.zero_le _) ⟨⟨rfl, rfl⟩, ⟨rfl, rfl⟩, ⟨rfl, rfl⟩, ⟨rfl, rfl⟩, ⟨rfl, rfl⟩, trivial⟩ ⟨.inr rfl, trivial⟩ (fun i hI => ?_)
    refine .seq ?_
    refine .region ?_
    refine .step rfl (.bin rfl rfl rfl rfl) ?_
    refine .nil ?_
    refine .next ?_
    refine .seq ?_
    refine .cond rfl (fun h3 => ?_) (fun h3 => ?_)
    · skip
      have h : i < xss.length := by have q := of_decide_eq_true h3; (try dsimp only at q); omega
      have h2 := flat_take_len h
      have h3 := flat_take_le xss (i + 1)
      refine .skip ?_
      refine .next ?_
      refine .seq ?_
      refine .block ?_
      refine .seq ?_
      refine .region ?_
      refine .step rfl (.idx (xss[i]) rfl rfl rfl rfl et118 (fun _ => rfl) (Int.natCast_nonneg _) (get_nat h)) ?_
      refine .step rfl (.lde rfl rfl rfl rfl tk32) ?_
      refine .step rfl (.assign rfl rfl) ?_
      refine .nil ?_
      refine .next ?_
      refine .region ?_
      refine .step rfl (.move rfl rfl) ?_
      refine .step rfl (.move rfl rfl) ?_
      refine .step rfl (.append 2 rfl rfl rfl (it_flat _) rfl ap32 rfl rfl trivial (it_all _) (by omega) (by omega)) ?_
      refine .step rfl (.assign rfl rfl) ?_
      refine .nil ?_
      refine TE.blk ?_
      refine .next ?_
      refine .region ?_
      refine .step rfl (.binv (.int .i64 ((i + 1 : Nat) : Int)) rfl rfl rfl rfl (congrArg _ (by (try dsimp only); rw [IntKind.wrap_i64]; omega))) ?_
      refine .step rfl (.move rfl rfl) ?_
      refine .nil ?_
      refine TE.set 6 (.ow 2 ((xss.take (i + 1)).flatten.length : Nat) 64) rfl (by rw [flat_take_len h]) ?_
      refine TE.obj 2 (.row 28 64 ((xss.take (i + 1)).flatten.flatMap It.dv)) rfl (by rw [flat_take_succ h, List.flatMap_append]) ?_
      refine TE.setv 27 (.int .i64 ((i + 1 : Nat) : Int)) rfl (congrArg _ (by first | rfl | (dsimp only; first | done | rfl | omega))) ?_
      exact TE.round (swp 1 2) (swp_inj 1 2) (i + 1) (by omega) (by omega) ⟨⟨rfl, rfl⟩, ⟨rfl, rfl⟩, ⟨rfl, rfl⟩, ⟨rfl, rfl⟩, ⟨rfl, rfl⟩, trivial⟩ ⟨.inr rfl, trivial⟩
    · skip
      have h : ¬ (i < xss.length) := by have q := of_decide_eq_false h3; (try dsimp only at q); omega
      have hi : i = xss.length := by have : i ≤ xss.length := hI; omega
      refine .exit ?_
      refine TE.pass ?_
      refine TE.pass ?_
      refine TE.here ?_
      refine .next ?_
      refine .seq ?_
      refine .region ?_
      refine .step rfl (.move rfl rfl) ?_
      refine .step rfl (.assign rfl rfl) ?_
      refine .nil ?_
      refine .next ?_
      refine .ret ?_
      subst hi
      rw [List.take_length]
      exact TE.retof rfl rfl rfl (it_flat _) (by decide) (pl_flat pl_it _)
theorem cf34 : cfn Try.prog 34 = true := by kernel_rfl
theorem cf35 : cfn Try.prog 35 = true := by kernel_rfl
theorem cf36 : cfn Try.prog 36 = true := by kernel_rfl
theorem cf67 : cfn Try.prog 67 = true := by kernel_rfl
theorem cf68 : cfn Try.prog 68 = true := by kernel_rfl
theorem cf69 : cfn Try.prog 69 = true := by kernel_rfl
theorem cf70 : cfn Try.prog 70 = true := by kernel_rfl
theorem cf71 : cfn Try.prog 71 = true := by kernel_rfl
theorem cf72 : cfn Try.prog 72 = true := by kernel_rfl
theorem cf73 : cfn Try.prog 73 = true := by kernel_rfl
theorem sp28 : stp Try.prog 28 = some ([.int .u8 0, .int .u8 0, .int .u8 0, .int .u8 0, .int .u8 0, .int .u8 0, .int .u8 0, .int .u8 0, .int .u8 0, .int .u8 0, .int .u8 0, .int .u8 0, .int .u8 0, .int .u8 0, .int .u8 0, .int .u8 0, .int .u8 0, .int .u8 0, .int .u8 0, .int .u8 0, .int .u8 0, .int .u8 0, .int .u8 0, .int .u8 0, .int .u8 0, .int .u8 0, .int .u8 0, .int .u8 0, .int .u8 0, .int .u8 0, .int .u8 0, .int .u8 0, .int .u8 0, .int .u8 0, .int .u8 0, .int .u8 0, .int .u8 0, .int .u8 0, .int .u8 0, .int .u8 0, .int .u8 0, .int .u8 0, .int .u8 0, .int .u8 0, .int .u8 0, .int .u8 0, .int .u8 0, .int .u8 0, .int .u8 0, .int .u8 0, .int .u8 0, .int .u8 0, .int .u8 0, .int .u8 0, .int .u8 0, .int .u8 0, .int .u8 0, .int .u8 0, .int .u8 0, .int .u8 0, .int .u8 0, .int .u8 0, .int .u8 0, .int .u8 0], [(0, 32), (32, 32)]) := by kernel_rfl
theorem sz5 : szt Try.prog 5 = some 1 := by kernel_rfl
theorem tk3 : tyk Try.prog 3 = some none := by kernel_rfl
set_option maxRecDepth 100000 in
set_option maxHeartbeats 1600000 in
theorem clone_po (l : List It) (hl : l.length ≤ 1048576) : PO Try.prog 68 [slT It.dv 64 (l)] 28 64 l.length (l.flatMap It.dv) := by
  refine PO.enter (fn := Try.f68) Try.func68 rfl Try.ntmps68 rfl (fun w0 => ?_)
  refine .seq ?_
  refine .region ?_
  refine .step rfl (.assign rfl rfl) ?_
  refine .nil ?_
  refine .next ?_
  refine .seq ?_
  refine .seq ?_
  refine .region ?_
  refine .step rfl (.move rfl rfl) ?_
  refine .eqnil rfl rfl rfl et32 (fun hn0 hc0 => ?_) ?_
  · skip
    have e : l = [] := List.eq_nil_of_length_eq_zero hn0
    subst e
    refine .nil ?_
    refine .next ?_
    refine .cond rfl (fun h1 => ?_) (fun h1 => absurd h1 (by decide))
    refine .seq ?_
    refine .region ?_
    refine .step rfl (.assign rfl rfl) ?_
    refine .nil ?_
    refine TE.own0 2 1 28 64 rfl rfl ?_
    refine .next ?_
    refine .ret ?_
    exact TE.retof rfl rfl rfl rfl (by decide) pl_nil
  · skip
    refine .nil ?_
    refine .next ?_
    refine .cond rfl (fun h2 => absurd h2 (by decide)) (fun h2 => ?_)
    refine .skip ?_
    refine .next ?_
    refine .seq ?_
    refine .region ?_
    refine .step rfl (.buildsl0 2 rfl rfl ap32) ?_
    refine .step rfl (.move rfl rfl) ?_
    refine .step rfl (.append 3 rfl rfl rfl rfl rfl ap32 rfl rfl trivial (it_all _) (by omega) (by omega)) ?_
    refine .step rfl (.assign rfl rfl) ?_
    refine .nil ?_
    refine TE.set 2 (.ow 3 l.length 64) rfl (by rw [Nat.zero_add]) ?_
    refine TE.obj 3 (.row 28 64 (l.flatMap It.dv)) rfl rfl ?_
    refine .next ?_
    refine .ret ?_
    exact TE.retof rfl rfl rfl (it_flat _) (by decide) (pl_flat pl_it _)
set_option maxRecDepth 100000 in
set_option maxHeartbeats 1600000 in
theorem part1_pf (x : It) (a : Int) : PF Try.prog 70 ([.ag x.dv] ++ [.el [.v (.int .i64 a)]]) (.v (.bool (bitB a x))) := by
  refine PF.enter (fn := Try.f70) Try.func70 rfl Try.ntmps70 rfl (fun w0 => ?_)
  refine .seq ?_
  refine .region ?_
  refine .step rfl (.box 1 rfl rfl rfl rfl) ?_
  refine .step rfl (.assign rfl rfl) ?_
  refine .nil ?_
  refine TE.frzb 2 rfl rfl rfl rfl ?_
  refine .next ?_
  refine .seq ?_
  refine .region ?_
  refine .step rfl (.fielde rfl rfl rfl fo28_0) ?_
  refine .step rfl (.ldem (ds := hdv x.ix) rfl rfl rfl rfl rfl tk25) ?_
  refine .step rfl (.lde rfl rfl rfl rfl tk3) ?_
  refine .step rfl (.callf rfl cf35 rfl ⟨trivial, trivial, trivial⟩ (bit_pf x.ix a)) ?_
  refine .step rfl (.bin rfl rfl rfl rfl) ?_
  refine .step rfl (.assign rfl rfl) ?_
  refine .nil ?_
  refine .next ?_
  refine .ret ?_
  exact TE.retf rfl rfl rfl trivial
set_option maxRecDepth 100000 in
set_option maxHeartbeats 1600000 in
theorem idx_pf (l : List It) (a : Int) (hl : l.length ≤ 1048577) : PF Try.prog 67 [slT It.dv 64 (l), .fn (.func 70) [] [.el [.v (.int .i64 a)]]] (.v (.int .i64 (idxF a l))) := by
  refine PF.enter (fn := Try.f67) Try.func67 rfl Try.ntmps67 rfl (fun w0 => ?_)
  refine .seq ?_
  refine .region ?_
  refine .step rfl (.assign rfl rfl) ?_
  refine .nil ?_
  refine .next ?_
  refine .seq ?_
  refine .seq ?_
  refine .region ?_
  refine .step rfl (.move rfl rfl) ?_
  refine .step rfl (.len rfl rfl ⟨_, _, rfl⟩ is32) ?_
  refine .step rfl (.move rfl rfl) ?_
  refine .nil ?_
  refine TE.setv 8 (.int .i64 ((0 : Nat) : Int)) rfl (congrArg _ (by first | rfl | (dsimp only; first | done | rfl | omega))) ?_
  refine .next ?_
  refine .block ?_
  refine TC.loop (S := Nat) (fun i => i ≤ l.length ∧ ∀ j (hj : j < l.length), j < i → bitB a l[j] = false) (fun i => l.length - i) (fun i => [(0, .d (slT It.dv 64 (l))), (1, .d (.fn (.func 70) [] [.el [.v (.int .i64 a)]])), (6, .d (slT It.dv 64 (l))), (7, .f (.v (.int .i64 ((l.length : Nat) : Int)))), (8, .d (.v (.int .i64 ((i : Nat) : Int))))]) (fun i => []) (0) ⟨Nat.zero_le _, fun j _ h => absurd h (Nat.not_lt_zero j)⟩ ⟨⟨rfl, rfl⟩, ⟨rfl, rfl⟩, ⟨rfl, rfl⟩, ⟨rfl, rfl⟩, ⟨rfl, rfl⟩, trivial⟩ trivial (fun i hI => ?_)
  obtain ⟨i1, i2⟩ := hI
  refine .seq ?_
  refine .region ?_
  refine .step rfl (.bin rfl rfl rfl rfl) ?_
  refine .nil ?_
  refine .next ?_
  refine .seq ?_
  refine .cond rfl (fun h1 => ?_) (fun h1 => ?_)
  · skip
    have hi : i < l.length := by have q := of_decide_eq_true h1; (try dsimp only at q); omega
    refine .skip ?_
    refine .next ?_
    refine .seq ?_
    refine .block ?_
    refine .seq ?_
    refine .region ?_
    refine .step rfl (.move rfl rfl) ?_
    refine .step rfl (.assign rfl rfl) ?_
    refine .nil ?_
    refine .next ?_
    refine .seq ?_
    refine .region ?_
    refine .step rfl (.move rfl rfl) ?_
    refine .step rfl (.move rfl rfl) ?_
    refine .step rfl (.move rfl rfl) ?_
    refine .step rfl (.idx (l[i]) rfl rfl rfl rfl et32 it_len (Int.natCast_nonneg _) (get_nat (hi))) ?_
    refine .step rfl (.ldem (ds := l[i].dv) rfl rfl rfl rfl rfl tk28) ?_
    refine .step rfl (.callvf rfl rfl cf70 rfl ⟨trivial, trivial⟩ (part1_pf l[i] a)) ?_
    refine .nil ?_
    refine .next ?_
    refine .cond rfl (fun h2 => ?_) (fun h2 => ?_)
    · skip
      have hb : bitB a l[i] = true := h2
      have e : idxF a l = ((i : Nat) : Int) := by unfold idxF; rw [fst_at hi hb (fun j hj hjk => i2 j hj hjk), if_pos hi]
      refine .seq ?_
      refine .region ?_
      refine .step rfl (.move rfl rfl) ?_
      refine .step rfl (.assign rfl rfl) ?_
      refine .nil ?_
      refine .next ?_
      refine .ret ?_
      rw [e]
      exact TE.retf rfl rfl rfl (pl_v _)
    · skip
      have hb : bitB a l[i] = false := h2
      refine .skip ?_
      refine TE.blk ?_
      refine .next ?_
      refine .region ?_
      refine .step rfl (.binv (.int .i64 ((i + 1 : Nat) : Int)) rfl rfl rfl rfl (congrArg _ (by (try dsimp only); rw [IntKind.wrap_i64]; omega))) ?_
      refine .step rfl (.move rfl rfl) ?_
      refine .nil ?_
      refine TE.setv 8 (.int .i64 ((i + 1 : Nat) : Int)) rfl (congrArg _ (by first | rfl | (dsimp only; first | done | rfl | omega))) ?_
      exact TE.round id (fun _ _ e => e) (i + 1) ⟨hi, fun j hj hjk => (Nat.lt_or_eq_of_le (Nat.le_of_lt_succ hjk)).elim (i2 j hj) (fun e => by subst e; exact hb)⟩ (by omega) ⟨⟨rfl, rfl⟩, ⟨rfl, rfl⟩, ⟨rfl, rfl⟩, ⟨rfl, rfl⟩, ⟨rfl, rfl⟩, trivial⟩ trivial
  · skip
    have hi : ¬ (i < l.length) := by have q := of_decide_eq_false h1; (try dsimp only at q); omega
    have e : idxF a l = -1 := by unfold idxF; rw [fst_none (fun j hj => i2 j hj (by omega)), if_neg (Nat.lt_irrefl _)]
    refine .exit ?_
    refine TE.pass ?_
    refine TE.pass ?_
    refine TE.here ?_
    refine .next ?_
    refine .seq ?_
    refine .region ?_
    refine .step rfl (.assign rfl rfl) ?_
    refine .nil ?_
    refine .next ?_
    refine .ret ?_
    rw [e]
    exact TE.retf rfl rfl rfl trivial
set_option maxRecDepth 100000 in
set_option maxHeartbeats 1600000 in
theorem ones_pf : PF Try.prog 69 [] (.ag (hdv onesH)) := by
  refine PF.enter (fn := Try.f69) Try.func69 rfl Try.ntmps69 rfl (fun w0 => ?_)
  refine .seq ?_
  refine .region ?_
  refine .step rfl (.alloc 1 rfl rfl zc25 rfl) ?_
  refine .nil ?_
  refine .next ?_
  refine .seq ?_
  refine .region ?_
  refine .step rfl (.alloc 2 rfl rfl zc25 rfl) ?_
  refine .nil ?_
  refine TE.obj 1 (.box 25 (hdv zeroH)) rfl rfl ?_
  refine TE.obj 2 (.box 25 (hdv (onesN 0))) rfl rfl ?_
  refine .next ?_
  refine .seq ?_
  refine .seq ?_
  refine .region ?_
  refine .step rfl (.move rfl rfl) ?_
  refine .nil ?_
  refine TE.setv 3 (.int .i64 ((0 : Nat) : Int)) rfl (congrArg _ (by first | rfl | (dsimp only; first | done | rfl | omega))) ?_
  refine .next ?_
  refine .block ?_
  refine TC.loop (S := Nat) (fun i => i ≤ 32) (fun i => 32 - i) (fun i => [(0, .ptr 1 0), (1, .ptr 2 0), (3, .d (.v (.int .i64 ((i : Nat) : Int))))]) (fun i => [(1, .box 25 (hdv zeroH)), (2, .box 25 (hdv (onesN i)))]) (0) (Nat.zero_le _) ⟨⟨rfl, rfl⟩, ⟨rfl, rfl⟩, ⟨rfl, rfl⟩, trivial⟩ ⟨.inr rfl, .inr rfl, trivial⟩ (fun i hI => ?_)
  refine .seq ?_
  refine .region ?_
  refine .step rfl (.bin rfl rfl rfl rfl) ?_
  refine .nil ?_
  refine .next ?_
  refine .seq ?_
  refine .cond rfl (fun h1 => ?_) (fun h1 => ?_)
  · skip
    have hi : i < 32 := by have q := of_decide_eq_true h1; (try dsimp only at q); omega
    refine .skip ?_
    refine .next ?_
    refine .seq ?_
    refine .block ?_
    refine .seq ?_
    refine .region ?_
    refine .step rfl (.move rfl rfl) ?_
    refine .step rfl (.assign rfl rfl) ?_
    refine .nil ?_
    refine .next ?_
    refine .region ?_
    refine .step rfl (.move rfl rfl) ?_
    refine .step rfl (.idxp rfl rfl rfl rfl rfl ar25 (Int.natCast_nonneg _) (by omega)) ?_
    refine .step rfl (.storeg rfl rfl rfl rfl sz5 rfl (by rw [h_len, Nat.mul_one, Nat.zero_add, Int.toNat_natCast]; exact hi)) ?_
    refine .nil ?_
    refine TE.obj 2 (.box 25 (hdv (onesN (i + 1)))) rfl (by rw [Nat.mul_one, Nat.zero_add, Int.toNat_natCast]; exact congrArg (AO.box _) (ones_set hi)) ?_
    refine TE.blk ?_
    refine .next ?_
    refine .region ?_
    refine .step rfl (.binv (.int .i64 ((i + 1 : Nat) : Int)) rfl rfl rfl rfl (congrArg _ (by (try dsimp only); rw [IntKind.wrap_i64]; omega))) ?_
    refine .step rfl (.move rfl rfl) ?_
    refine .nil ?_
    refine TE.setv 3 (.int .i64 ((i + 1 : Nat) : Int)) rfl (congrArg _ (by first | rfl | (dsimp only; first | done | rfl | omega))) ?_
    exact TE.round id (fun _ _ e => e) (i + 1) (by omega) (by omega) ⟨⟨rfl, rfl⟩, ⟨rfl, rfl⟩, ⟨rfl, rfl⟩, trivial⟩ ⟨.inr rfl, .inr rfl, trivial⟩
  · skip
    have hi : ¬ (i < 32) := by have q := of_decide_eq_false h1; (try dsimp only at q); omega
    have e : i = 32 := by have : i ≤ 32 := hI; omega
    subst e
    refine .exit ?_
    refine TE.pass ?_
    refine TE.pass ?_
    refine TE.here ?_
    refine .next ?_
    refine .seq ?_
    refine .region ?_
    refine .step rfl (.ldpm rfl rfl rfl rfl rfl rfl tk25) ?_
    refine .step rfl (.store rfl rfl rfl sz25 rfl rfl) ?_
    refine .nil ?_
    refine .next ?_
    refine .ret ?_
    exact TE.retf rfl rfl rfl (pl_ag (pl_h _))
set_option maxRecDepth 100000 in
set_option maxHeartbeats 1600000 in
theorem part_pf (l : List It) (a : Nat) (ha : a < 256) (hl : l.length ≤ 1048576) : PF Try.prog 34 [slT It.dv 64 (l), .v (.int .i64 ((a : Nat) : Int))] (.v (.int .i64 ((fst_ (fun x => !bit0 a x) l : Nat) : Int))) := by
  refine PF.enter (fn := Try.f34) Try.func34 rfl Try.ntmps34 rfl (fun w0 => ?_)
  refine .seq ?_
  refine .region ?_
  refine .step rfl (.box 1 rfl rfl rfl rfl) ?_
  refine .step rfl (.assign rfl rfl) ?_
  refine .nil ?_
  refine TE.frzb 3 rfl rfl rfl rfl ?_
  refine .next ?_
  refine .seq ?_
  refine .region ?_
  refine .step rfl (.move rfl rfl) ?_
  refine .step rfl (.callo 2 rfl rfl cf68 rfl ⟨trivial, trivial⟩ (clone_po l hl)) ?_
  refine .step rfl (.callf rfl cf69 rfl trivial (ones_pf)) ?_
  refine .step rfl (.build rfl rfl sp28 rfl rfl) ?_
  refine .step rfl (.buildsl (ds := onesI.dv) 3 rfl rfl rfl ap32 zc28 rfl rfl rfl) ?_
  refine .step rfl (.append 4 rfl rfl rfl (it_flat _) rfl ap32 rfl rfl (okA_len rfl rfl) (it_one _) (by omega) (by omega)) ?_
  refine .step rfl (.mkfn rfl rfl) ?_
  refine .frz 10 (slT It.dv 64 (l ++ [onesI])) rfl rfl (by rw [List.length_append, it_flat, it_len]; omega) (by show DV.sl _ _ _ = DV.sl _ _ _; rw [List.length_append, List.flatMap_append]; simp [onesI]) ?_
  refine .step rfl (.callf rfl cf67 rfl ⟨trivial, trivial, trivial⟩ (idx_pf (l ++ [onesI]) ((a : Nat) : Int) (by simp; omega))) ?_
  refine .step rfl (.assign rfl rfl) ?_
  refine .nil ?_
  refine .next ?_
  refine .ret ?_
  rw [← idxF_ones ha]
  exact TE.retf rfl rfl rfl trivial
set_option maxRecDepth 100000 in
set_option maxHeartbeats 1600000 in
theorem below_step (f : Nat) (ih : ∀ g, f = g + 1 → ∀ k l, okT g k l → l.length ≤ 1048576 → k ≤ 256 → PF Try.prog 36 [slT It.dv 64 l, .v (.int .i64 ((k : Nat) : Int))] (.ag (hdv (belowH (g + 1) k l)))) (k : Nat) (l : List It) (ho : okT f k l) (hl : l.length ≤ 1048576) (hk : k ≤ 256) : PF Try.prog 36 [slT It.dv 64 l, .v (.int .i64 ((k : Nat) : Int))] (.ag (hdv (belowH (f + 1) k l))) := by
  refine PF.enter (fn := Try.f36) Try.func36 rfl Try.ntmps36 rfl (fun w0 => ?_)
  refine .seq ?_
  refine .region ?_
  refine .step rfl (.alloc 1 rfl rfl zc25 rfl) ?_
  refine .nil ?_
  refine .next ?_
  refine .seq ?_
  refine .seq ?_
  refine .region ?_
  refine .step rfl (.move rfl rfl) ?_
  refine .step rfl (.len rfl rfl ⟨_, _, rfl⟩ is32) ?_
  refine .nil ?_
  refine .next ?_
  refine .block ?_
  refine .seq ?_
  refine .region ?_
  refine .step rfl (.bin rfl rfl rfl rfl) ?_
  refine .step rfl (.assign rfl rfl) ?_
  refine .nil ?_
  refine .next ?_
  refine .cond rfl (fun h1 => ?_) (fun h1 => ?_)
  · skip
    have h0 : l.length = 0 := by have q := of_decide_eq_true h1; (try dsimp only at q); omega
    have el : l = [] := List.eq_nil_of_length_eq_zero h0
    subst el
    refine .seq ?_
    refine .region ?_
    refine .step rfl (.callf rfl cf71 rfl trivial (empty_pf)) ?_
    refine .step rfl (.store rfl rfl rfl sz25 rfl rfl) ?_
    refine .nil ?_
    refine .next ?_
    refine .ret ?_
    have e : belowH (f + 1) k [] = tagH 122 [] := rfl
    rw [e]
    exact TE.retf rfl rfl rfl (pl_ag (pl_h _))
  · skip
    have h0 : ¬ (l.length = 0) := by have q := of_decide_eq_false h1; (try dsimp only at q); omega
    refine .seq ?_
    refine .region ?_
    refine .step rfl (.bin rfl rfl rfl rfl) ?_
    refine .step rfl (.assign rfl rfl) ?_
    refine .nil ?_
    refine .next ?_
    refine .cond rfl (fun h2 => ?_) (fun h2 => ?_)
    · skip
      have h1 : l.length = 1 := by have q := of_decide_eq_true h2; (try dsimp only at q); omega
      obtain ⟨x, el⟩ := one_of h1
      subst el
      refine .seq ?_
      refine .region ?_
      refine .step rfl (.move rfl rfl) ?_
      refine .step rfl (.idx (x) rfl rfl rfl rfl et32 it_len (by decide) rfl) ?_
      refine .step rfl (.ldem (ds := x.dv) rfl rfl rfl rfl rfl tk28) ?_
      refine .step rfl (.callf rfl cf72 rfl ⟨trivial, trivial⟩ (leaf_pf x)) ?_
      refine .step rfl (.store rfl rfl rfl sz25 rfl rfl) ?_
      refine .nil ?_
      refine .next ?_
      refine .ret ?_
      have e : belowH (f + 1) k [x] = tagH 108 [H.l x.ix, H.l x.vl] := rfl
      rw [e]
      exact TE.retf rfl rfl rfl (pl_ag (pl_h _))
    · skip
      have h1 : ¬ (l.length = 1) := by have q := of_decide_eq_false h2; (try dsimp only at q); omega
      have h2 : ¬ l.length < 2 := by omega
      obtain ⟨g, rfl, hk2, hs, ho1, ho2⟩ := okT_two ho h2
      refine .skip ?_
      refine TE.blk ?_
      refine .next ?_
      refine .seq ?_
      refine .region ?_
      refine .step rfl (.move rfl rfl) ?_
      refine .step rfl (.move rfl rfl) ?_
      refine .step rfl (.callf rfl cf34 rfl ⟨trivial, trivial, trivial⟩ (part_pf l k hk2 hl)) ?_
      refine .step rfl (.assign rfl rfl) ?_
      refine .nil ?_
      refine .next ?_
      refine .seq ?_
      have hN := fst_le (fun x => !bit0 k x) l
      obtain ⟨t1, t2⟩ := take_side _ hs
      rw [filter_nn] at t1
      have f1 := List.length_filter_le (bit0 k) l
      have f2 := List.length_filter_le (fun x => !bit0 k x) l
      have c1 := ih g rfl (k + 1) (l.filter (bit0 k)) ho1 (by omega) (by omega)
      have c2 := ih g rfl (k + 1) (l.filter (fun x => !bit0 k x)) ho2 (by omega) (by omega)
      rw [← t1] at c1
      rw [← t2] at c2
      have c2' : PF Try.prog 36 [slT It.dv 64 ((l.take ((l.length : Nat) : Int).toNat).drop (((fst_ (fun x => !bit0 k x) l : Nat) : Int)).toNat), .v (.int .i64 ((k + 1 : Nat) : Int))] (.ag (hdv (belowH (g + 1) (k + 1) (l.drop (fst_ (fun x => !bit0 k x) l))))) := by rw [Int.toNat_natCast, Int.toNat_natCast, List.take_length]; exact c2
      refine .draw mixed [Ro.mk _ (Eff.mk (some (20, _)) []) [], Ro.mk _ (Eff.mk (some (21, _)) []) [], Ro.mk _ (Eff.mk (some (22, _)) []) [], Ro.mk _ (Eff.mk (some (23, _)) []) [], Ro.mk _ (Eff.mk (some (24, _)) []) [], Ro.mk _ (Eff.mk (some (25, _)) []) [], Ro.mk _ (Eff.mk (some (26, _)) []) [], Ro.mk _ (Eff.mk (some (27, _)) []) [], Ro.mk _ (Eff.mk (some (28, _)) []) [], Ro.mk _ (Eff.mk (some (29, _)) []) [], Ro.mk _ (Eff.mk (some (30, _)) []) [], Ro.mk _ (Eff.mk (some (31, _)) []) [], Ro.mk _ (Eff.mk (some (32, _)) []) [], Ro.mk _ (Eff.mk none [(1, _)]) [1]] rfl ⟨(fun _ _ => .move rfl rfl), (fun _ _ => .move rfl rfl), (fun _ _ => .slice rfl rfl rfl rfl rfl et32 it_len (by decide) (by omega) (by omega)), (fun _ _ => .move rfl rfl), (fun _ _ => .binv (.int .i64 ((k + 1 : Nat) : Int)) rfl rfl rfl rfl (congrArg _ (by (try dsimp only); rw [IntKind.wrap_i64]; omega))), (fun _ _ => .callf rfl cf36 rfl ⟨trivial, trivial, trivial⟩ (c1)), (fun _ _ => .move rfl rfl), (fun _ _ => .move rfl rfl), (fun _ _ => .slice rfl rfl rfl rfl rfl et32 it_len (Int.natCast_nonneg _) (by omega) (by omega)), (fun _ _ => .move rfl rfl), (fun _ _ => .binv (.int .i64 ((k + 1 : Nat) : Int)) rfl rfl rfl rfl (congrArg _ (by (try dsimp only); rw [IntKind.wrap_i64]; omega))), (fun _ _ => .callf rfl cf36 rfl ⟨trivial, trivial, trivial⟩ (c2')), (fun _ _ => .callf rfl cf73 rfl ⟨trivial, trivial, trivial⟩ (node_pf _ _)), (fun _ _ => .store rfl rfl rfl sz25 rfl rfl), trivial⟩ (by kernel_rfl) ?_
      refine .next ?_
      refine .ret ?_
      rw [belowH_two h2]
      rw [← t1, ← t2]
      exact TE.retf rfl rfl rfl (pl_ag (pl_h _))
theorem below_pf : ∀ (f k : Nat) (l : List It), okT f k l → l.length ≤ 1048576 → k ≤ 256 → PF Try.prog 36 [slT It.dv 64 l, .v (.int .i64 ((k : Nat) : Int))] (.ag (hdv (belowH (f + 1) k l)))
  | 0 => below_step 0 (fun g e => by omega)
  | f + 1 => below_step (f + 1) (fun g e => (show f = g by omega) ▸ below_pf f)
theorem ap118 : apt Try.prog 118 = some (32, 1, 24) := by kernel_rfl
theorem cf60 : cfn Try.prog 60 = true := by kernel_rfl
theorem cf61 : cfn Try.prog 61 = true := by kernel_rfl
theorem cf62 : cfn Try.prog 62 = true := by kernel_rfl
theorem cf64 : cfn Try.prog 64 = true := by kernel_rfl
theorem cf65 : cfn Try.prog 65 = true := by kernel_rfl
theorem zc32 : zc Try.prog 32 = some [.slice none 0 0] := by kernel_rfl
set_option maxRecDepth 100000 in
set_option maxHeartbeats 1600000 in
theorem set_pc (l m : List It) (hx : l.length + m.length ≤ 1048576) : PC Try.prog 33 [slT It.dv 64 (l), slT It.dv 64 (m)] (slT It.dv 64 (setA l m)) := by
  have hX : ([l, m].flatten).length ≤ 1048576 := by simp; omega
  refine PC.enter (fn := Try.f33) Try.func33 rfl Try.ntmps33 rfl (fun w0 K0 => ?_)
  refine .seq ?_
  refine .region ?_
  refine .step rfl (.assign rfl rfl) ?_
  refine .nil ?_
  refine .next ?_
  refine .seq ?_
  refine .region ?_
  refine .step rfl (.move rfl rfl) ?_
  refine .step rfl (.move rfl rfl) ?_
  refine .step rfl (.buildsl (ds := [slT It.dv 64 (l), slT It.dv 64 (m)]) 1 rfl rfl rfl ap118 zc32 rfl rfl rfl) ?_
  refine .step rfl (.callo 2 rfl rfl cf60 rfl ⟨okA_len rfl rfl, trivial⟩ (concat_po [l, m] (by simp) hX)) ?_
  refine .step rfl (.assign rfl rfl) ?_
  refine .nil ?_
  refine .next ?_
  refine .seq ?_
  refine .region ?_
  refine .step rfl (.move rfl rfl) ?_
  refine .step rfl (.callm (o' := .row 28 64 ((rvI ([l, m].flatten)).flatMap It.dv)) 2 rfl cf61 rfl rfl rfl rfl (by simp) rfl rfl (rev_pm ([l, m].flatten) hX)) ?_
  refine .nil ?_
  refine .next ?_
  refine .seq ?_
  refine .region ?_
  refine .step rfl (.move rfl rfl) ?_
  refine .step rfl (.callm (o' := .row 28 64 ((stI (rvI ([l, m].flatten))).flatMap It.dv)) 2 rfl cf62 rfl rfl rfl rfl (by simp) rfl rfl ((rvI_len ([l, m].flatten)) ▸ sort_pm (rvI ([l, m].flatten)) (by rw [rvI_len]; exact hX))) ?_
  refine .nil ?_
  refine .next ?_
  refine .seq ?_
  refine .region ?_
  refine .step rfl (.move rfl rfl) ?_
  refine .step rfl (.callm (o' := .row 28 64 ((setA l m).flatMap It.dv)) 2 rfl cf65 rfl rfl rfl rfl (by simp) rfl rfl (((stI_len _).trans (rvI_len ([l, m].flatten))) ▸ compact_pm (stI (rvI ([l, m].flatten))) (by rw [stI_len, rvI_len]; exact hX))) ?_
  refine .frz 15 (slT It.dv 64 (setA l m)) rfl rfl (it_flat _) rfl ?_
  refine .step rfl (.callc rfl cf64 rfl (clip_pc (setA l m))) ?_
  refine .step rfl (.assign rfl rfl) ?_
  refine .nil ?_
  refine .next ?_
  refine .ret ?_
  exact TE.retc rfl rfl rfl
theorem cf53 : cfn Try.prog 53 = true := by kernel_rfl
theorem u844 : u8s Try.prog 44 = some 5 := by kernel_rfl
theorem us9 : uks Try.prog 9 = true := by kernel_rfl
set_option maxRecDepth 100000 in
set_option maxHeartbeats 1600000 in
theorem rless_pf (a b : H) : PF Try.prog 53 [.ag (hdv a), .ag (hdv b)] (.v (.bool (Op.bytesLess (H.l a) (H.l b)))) := by
  refine PF.enter (fn := Try.f53) Try.func53 rfl Try.ntmps53 rfl (fun w0 => ?_)
  refine .seq ?_
  refine .region ?_
  refine .step rfl (.box 1 rfl rfl rfl rfl) ?_
  refine .step rfl (.box 2 rfl rfl rfl rfl) ?_
  refine .step rfl (.assign rfl rfl) ?_
  refine .nil ?_
  refine TE.frzb 2 rfl rfl rfl rfl ?_
  refine TE.frzb 3 rfl rfl rfl rfl ?_
  refine .next ?_
  refine .seq ?_
  refine .draw mixed [Ro.mk _ (Eff.mk (some (5, _)) []) [], Ro.mk _ (Eff.mk (some (6, _)) []) [], Ro.mk _ (Eff.mk (some (7, _)) []) [], Ro.mk _ (Eff.mk (some (8, _)) []) [], Ro.mk _ (Eff.mk (some (9, _)) []) [], Ro.mk _ (Eff.mk (some (4, _)) []) []] rfl ⟨(fun _ _ => .slicee rfl rfl rfl ar25 (Nat.le_of_ble_eq_true rfl) (by decide)), (fun _ _ => .convbs (l := H.l a) rfl rfl rfl trivial u844 us9), (fun _ _ => .slicee rfl rfl rfl ar25 (Nat.le_of_ble_eq_true rfl) (by decide)), (fun _ _ => .convbs (l := H.l b) rfl rfl rfl trivial u844 us9), (fun _ _ => .binv (.bool (Op.bytesLess (H.l a) (H.l b))) rfl rfl rfl rfl (congrArg Value.bool (by (try rw [ba_toList, ba_toList]); rfl))), (fun _ _ => .assign rfl rfl), trivial⟩ (by kernel_rfl) ?_
  refine .next ?_
  refine .ret ?_
  exact TE.retf rfl rfl rfl trivial
set_option maxRecDepth 100000 in
set_option maxHeartbeats 1600000 in
theorem rset_po (l m : List It) (hx : l.length + m.length ≤ 1048576) : PO Try.prog 26 [slT It.dv 64 (l), slT It.dv 64 (m)] 28 64 (setR l m).length ((setR l m).flatMap It.dv) := by
  obtain ⟨A, hA⟩ : ∃ A, A = l ++ m := ⟨_, rfl⟩
  have hAl : A.length ≤ 1048576 := by rw [hA]; simp; omega
  have hS : setR l m = A.foldl insR [] := by rw [hA]; rfl
  have hA := Lib.hid hA
  rw [hS]
  have hS := Lib.hid hS
  refine PO.enter (fn := Try.f26) Try.func26 rfl Try.ntmps26 rfl (fun w0 => ?_)
  refine .seq ?_
  refine .region ?_
  refine .step rfl (.assign rfl rfl) ?_
  refine .nil ?_
  refine .next ?_
  refine .seq ?_
  refine .region ?_
  refine .step rfl (.assign rfl rfl) ?_
  refine .nil ?_
  refine TE.own0 5 1 28 64 rfl rfl ?_
  refine .next ?_
  refine .seq ?_
  refine .region ?_
  refine .step rfl (.move rfl rfl) ?_
  refine .step rfl (.append0 2 rfl rfl rfl ap32 rfl rfl trivial (it_all _) (by omega) (by omega)) ?_
  refine .step rfl (.move rfl rfl) ?_
  refine .step rfl (.append 3 rfl rfl rfl (it_flat _) rfl ap32 rfl rfl trivial (it_all _) (by omega) (by omega)) ?_
  refine .step rfl (.assign rfl rfl) ?_
  refine .nil ?_
  refine TE.frz 6 (slT It.dv 64 (A)) rfl rfl (by rw [List.length_append, it_flat, it_flat]; omega) (by rw [hA.out]; show DV.sl _ _ _ = DV.sl _ _ _; rw [List.length_append, List.flatMap_append]) ?_
  refine .next ?_
  refine .seq ?_
  refine .seq ?_
  refine .region ?_
  refine .step rfl (.assign rfl rfl) ?_
  refine .nil ?_
  refine TE.setv 7 (.int .i64 ((0 : Nat) : Int)) rfl (congrArg _ (by first | rfl | (dsimp only; first | done | rfl | omega))) ?_
  refine .next ?_
  refine .block ?_
  refine TC.loop (S := Nat × List It) (fun s => s.1 ≤ A.length ∧ s.2.length ≤ s.1 ∧ s.2 = (A.take s.1).foldl insR []) (fun s => A.length - s.1) (fun s => [(0, .d (slT It.dv 64 (l))), (1, .d (slT It.dv 64 (m))), (5, .ow 1 s.2.length 64), (6, .d (slT It.dv 64 (A))), (7, .d (.v (.int .i64 ((s.1 : Nat) : Int))))]) (fun s => [(1, .row 28 64 ((s.2).flatMap It.dv)), (2, .dead), (3, .dead)]) ((0, [])) ⟨Nat.zero_le _, Nat.le_refl _, rfl⟩ ⟨⟨rfl, rfl⟩, ⟨rfl, rfl⟩, ⟨rfl, rfl⟩, ⟨rfl, rfl⟩, ⟨rfl, rfl⟩, trivial⟩ ⟨.inr rfl, .inl rfl, .inl rfl, trivial⟩ (fun s hI => ?_)
  obtain ⟨i, out⟩ := s
  obtain ⟨i1, i2, i3⟩ := hI
  have i1 : i ≤ A.length := i1
  have i2 : out.length ≤ i := i2
  have i3 : out = (A.take i).foldl insR [] := i3
  refine .seq ?_
  refine .seq ?_
  refine .region ?_
  refine .step rfl (.move rfl rfl) ?_
  refine .step rfl (.move rfl rfl) ?_
  refine .step rfl (.len rfl rfl ⟨_, _, rfl⟩ is32) ?_
  refine .step rfl (.bin rfl rfl rfl rfl) ?_
  refine .nil ?_
  refine .next ?_
  refine .cond rfl (fun h1 => ?_) (fun h1 => ?_)
  · skip
    have hi : i < A.length := by have q := of_decide_eq_true h1; (try dsimp only at q); omega
    refine .skip ?_
    refine .next ?_
    refine .seq ?_
    refine .block ?_
    refine .seq ?_
    refine .region ?_
    refine .step rfl (.assign rfl rfl) ?_
    refine .nil ?_
    refine TE.setv 8 (.int .i64 ((0 : Nat) : Int)) rfl (congrArg _ (by first | rfl | (dsimp only; first | done | rfl | omega))) ?_
    refine .next ?_
    refine .seq ?_
    refine .block ?_
    refine TC.loop (S := Nat) (fun k => k ≤ out.length ∧ ∀ j (hj : j < out.length), j < k → ltI out[j] A[i] = true) (fun k => out.length - k) (fun k => [(0, .d (slT It.dv 64 (l))), (1, .d (slT It.dv 64 (m))), (5, .ow 1 out.length 64), (6, .d (slT It.dv 64 (A))), (7, .d (.v (.int .i64 ((i : Nat) : Int)))), (8, .d (.v (.int .i64 ((k : Nat) : Int))))]) (fun k => [(1, .row 28 64 ((out).flatMap It.dv)), (2, .dead), (3, .dead)]) (0) ⟨Nat.zero_le _, fun j _ h => absurd h (Nat.not_lt_zero j)⟩ ⟨⟨rfl, rfl⟩, ⟨rfl, rfl⟩, ⟨rfl, rfl⟩, ⟨rfl, rfl⟩, ⟨rfl, rfl⟩, ⟨rfl, rfl⟩, trivial⟩ ⟨.inr rfl, .inl rfl, .inl rfl, trivial⟩ (fun k hI => ?_)
    obtain ⟨k1, hj⟩ := hI
    refine .seq ?_
    refine .seq ?_
    by_cases hk : k < out.length
    · skip
      refine .draw mixed [Ro.mk _ (Eff.mk (some (19, _)) []) [], Ro.mk _ (Eff.mk (some (20, _)) []) [], Ro.mk _ (Eff.mk (some (21, _)) []) [1], Ro.mk _ (Eff.mk (some (22, _)) []) [], Ro.mk _ (Eff.mk (some (23, _)) []) [], Ro.mk _ (Eff.mk (some (24, _)) []) [], Ro.mk _ (Eff.mk (some (25, _)) []) [], Ro.mk _ (Eff.mk (some (26, _)) []) [1], Ro.mk _ (Eff.mk (some (27, _)) []) [1], Ro.mk _ (Eff.mk (some (28, _)) []) [1], Ro.mk _ (Eff.mk (some (29, _)) []) [], Ro.mk _ (Eff.mk (some (30, _)) []) [], Ro.mk _ (Eff.mk (some (31, _)) []) [], Ro.mk _ (Eff.mk (some (32, _)) []) [], Ro.mk _ (Eff.mk (some (33, _)) []) [], Ro.mk _ (Eff.mk (some (34, _)) []) [], Ro.mk _ (Eff.mk (some (35, _)) []) []] rfl ⟨(fun _ _ => .move rfl rfl), (fun _ _ => .move rfl rfl), (fun _ _ => .leno rfl rfl rfl is32), (fun _ _ => .binv (.bool true) rfl rfl rfl rfl (congrArg Value.bool (decide_eq_true (by omega)))), (fun _ _ => .move rfl rfl), (.inr ⟨23, _, rfl, rfl, rfl, rfl, fun _ _ => .move rfl rfl⟩), (.inr ⟨23, _, rfl, rfl, rfl, rfl, fun _ _ => .move rfl rfl⟩), (.inr ⟨23, _, rfl, rfl, rfl, rfl, fun _ _ => .idxo rfl rfl rfl rfl rfl et32 (Int.natCast_nonneg _) (by omega)⟩), (.inr ⟨23, _, rfl, rfl, rfl, rfl, fun _ _ => .fieldp rfl rfl rfl rfl fo28_0⟩), (.inr ⟨23, _, rfl, rfl, rfl, rfl, fun _ _ => .ldpm rfl rfl rfl rfl (by rw [Nat.add_zero, Int.toNat_natCast]; exact flat_ix out hk) (h_len _) tk25⟩), (.inr ⟨23, _, rfl, rfl, rfl, rfl, fun _ _ => .move rfl rfl⟩), (.inr ⟨23, _, rfl, rfl, rfl, rfl, fun _ _ => .move rfl rfl⟩), (.inr ⟨23, _, rfl, rfl, rfl, rfl, fun _ _ => .idx (A[i]) rfl rfl rfl rfl et32 it_len (Int.natCast_nonneg _) (get_nat (hi))⟩), (.inr ⟨23, _, rfl, rfl, rfl, rfl, fun _ _ => .fielde rfl rfl rfl fo28_0⟩), (.inr ⟨23, _, rfl, rfl, rfl, rfl, fun _ _ => .ldem (ds := hdv A[i].ix) rfl rfl rfl rfl rfl tk25⟩), (.inr ⟨23, _, rfl, rfl, rfl, rfl, fun _ _ => .callf rfl cf53 rfl ⟨trivial, trivial, trivial⟩ (rless_pf out[k].ix A[i].ix)⟩), (fun _ _ => .pick rfl rfl rfl), trivial⟩ (by kernel_rfl) ?_
      refine .next ?_
      refine .cond rfl (fun h3 => ?_) (fun h3 => ?_)
      · skip
        have hlt : ltI out[k] A[i] = true := h3
        refine .skip ?_
        refine .next ?_
        refine .block ?_
        refine .region ?_
        refine .step rfl (.move rfl rfl) ?_
        refine .step rfl (.binv (.int .i64 ((k + 1 : Nat) : Int)) rfl rfl rfl rfl (congrArg _ (by (try dsimp only); rw [IntKind.wrap_i64]; omega))) ?_
        refine .step rfl (.assign rfl rfl) ?_
        refine .nil ?_
        refine TE.blk ?_
        refine TE.setv 8 (.int .i64 ((k + 1 : Nat) : Int)) rfl (congrArg _ (by first | rfl | (dsimp only; first | done | rfl | omega))) ?_
        exact TE.round id (fun _ _ e => e) (k + 1) ⟨hk, fun j h1 h2 => (Nat.lt_or_eq_of_le (Nat.le_of_lt_succ h2)).elim (hj j h1) (fun e => by subst e; exact hlt)⟩ (by omega) ⟨⟨rfl, rfl⟩, ⟨rfl, rfl⟩, ⟨rfl, rfl⟩, ⟨rfl, rfl⟩, ⟨rfl, rfl⟩, ⟨rfl, rfl⟩, trivial⟩ ⟨.inr rfl, .inl rfl, .inl rfl, trivial⟩
      · skip
        have hlt : ltI out[k] A[i] = false := h3
        have hpl := plc_at hk hlt hj
        refine .exit ?_
        refine TE.pass ?_
        refine TE.pass ?_
        refine TE.here ?_
        refine .next ?_
        refine .seq ?_
        refine .draw mixed [Ro.mk _ (Eff.mk (some (38, _)) []) [], Ro.mk _ (Eff.mk (some (39, _)) []) [], Ro.mk _ (Eff.mk (some (40, _)) []) [1], Ro.mk _ (Eff.mk (some (41, _)) []) [], Ro.mk _ (Eff.mk (some (42, _)) []) [], Ro.mk _ (Eff.mk (some (43, _)) []) [], Ro.mk _ (Eff.mk (some (44, _)) []) [], Ro.mk _ (Eff.mk (some (45, _)) []) [1], Ro.mk _ (Eff.mk (some (46, _)) []) [1], Ro.mk _ (Eff.mk (some (47, _)) []) [1], Ro.mk _ (Eff.mk (some (48, _)) []) [], Ro.mk _ (Eff.mk (some (49, _)) []) [], Ro.mk _ (Eff.mk (some (50, _)) []) [], Ro.mk _ (Eff.mk (some (51, _)) []) [], Ro.mk _ (Eff.mk (some (52, _)) []) [], Ro.mk _ (Eff.mk (some (53, _)) []) [], Ro.mk _ (Eff.mk (some (54, _)) []) []] rfl ⟨(fun _ _ => .move rfl rfl), (fun _ _ => .move rfl rfl), (fun _ _ => .leno rfl rfl rfl is32), (fun _ _ => .binv (.bool true) rfl rfl rfl rfl (congrArg Value.bool (decide_eq_true (by omega)))), (fun _ _ => .move rfl rfl), (.inr ⟨42, _, rfl, rfl, rfl, rfl, fun _ _ => .move rfl rfl⟩), (.inr ⟨42, _, rfl, rfl, rfl, rfl, fun _ _ => .move rfl rfl⟩), (.inr ⟨42, _, rfl, rfl, rfl, rfl, fun _ _ => .idxo rfl rfl rfl rfl rfl et32 (Int.natCast_nonneg _) (by omega)⟩), (.inr ⟨42, _, rfl, rfl, rfl, rfl, fun _ _ => .fieldp rfl rfl rfl rfl fo28_0⟩), (.inr ⟨42, _, rfl, rfl, rfl, rfl, fun _ _ => .ldpm rfl rfl rfl rfl (by rw [Nat.add_zero, Int.toNat_natCast]; exact flat_ix out hk) (h_len _) tk25⟩), (.inr ⟨42, _, rfl, rfl, rfl, rfl, fun _ _ => .move rfl rfl⟩), (.inr ⟨42, _, rfl, rfl, rfl, rfl, fun _ _ => .move rfl rfl⟩), (.inr ⟨42, _, rfl, rfl, rfl, rfl, fun _ _ => .idx (A[i]) rfl rfl rfl rfl et32 it_len (Int.natCast_nonneg _) (get_nat (hi))⟩), (.inr ⟨42, _, rfl, rfl, rfl, rfl, fun _ _ => .fielde rfl rfl rfl fo28_0⟩), (.inr ⟨42, _, rfl, rfl, rfl, rfl, fun _ _ => .ldem (ds := hdv A[i].ix) rfl rfl rfl rfl rfl tk25⟩), (.inr ⟨42, _, rfl, rfl, rfl, rfl, fun _ _ => .eqh (a := out[k].ix) (b := A[i].ix) rfl rfl rfl qh25⟩), (fun _ _ => .pick rfl rfl rfl), trivial⟩ (by kernel_rfl) ?_
        refine .next ?_
        refine .cond rfl (fun h4 => ?_) (fun h4 => ?_)
        · skip
          have hal : alike out[k] A[i] = true := h4
          refine .region ?_
          refine .step rfl (.move rfl rfl) ?_
          refine .step rfl (.move rfl rfl) ?_
          refine .step rfl (.move rfl rfl) ?_
          refine .step rfl (.move rfl rfl) ?_
          refine .step rfl (.idx (A[i]) rfl rfl rfl rfl et32 it_len (Int.natCast_nonneg _) (get_nat (hi))) ?_
          refine .step rfl (.ldem (ds := A[i].dv) rfl rfl rfl rfl rfl tk28) ?_
          refine .step rfl (.idxo rfl rfl rfl rfl rfl et32 (Int.natCast_nonneg _) (by omega)) ?_
          refine .step rfl (.storer (xs := out) (enc := It.dv) (A[i]) rfl rfl rfl rfl rfl rfl (fun _ => rfl) sz28 rfl (hk)) ?_
          refine .nil ?_
          refine TE.blk ?_
          refine .next ?_
          refine .region ?_
          refine .step rfl (.move rfl rfl) ?_
          refine .step rfl (.binv (.int .i64 ((i + 1 : Nat) : Int)) rfl rfl rfl rfl (congrArg _ (by (try dsimp only); rw [IntKind.wrap_i64]; omega))) ?_
          refine .step rfl (.assign rfl rfl) ?_
          refine .nil ?_
          refine TE.set 5 (.ow 1 (out.set k A[i]).length 64) rfl (by rw [List.length_set]) ?_
          refine TE.setv 7 (.int .i64 ((i + 1 : Nat) : Int)) rfl (congrArg _ (by first | rfl | (dsimp only; first | done | rfl | omega))) ?_
          exact TE.round id (fun _ _ e => e) ((i + 1, out.set k A[i])) ⟨by show i + 1 ≤ _; omega, by show (out.set k A[i]).length ≤ i + 1; rw [List.length_set]; omega, by show out.set k A[i] = (A.take (i + 1)).foldl insR []; rw [foldl_snoc hi, ← i3, insR_set hk (plc_at hk hlt hj) hal]⟩ (by show _ - (i + 1) < _ - i; omega) ⟨⟨rfl, rfl⟩, ⟨rfl, rfl⟩, ⟨rfl, rfl⟩, ⟨rfl, rfl⟩, ⟨rfl, rfl⟩, trivial⟩ ⟨.inr rfl, .inl rfl, .inl rfl, trivial⟩
        · skip
          have hno : ∀ hk : k < out.length, ¬ alike out[k] A[i] = true := fun _ => by rw [Bool.not_eq_true]; exact h4
          refine TC.frz 5 (slT It.dv 64 (out)) rfl rfl (it_flat _) rfl ?_
          refine .draw mixed [Ro.mk _ (Eff.mk (some (62, _)) []) [], Ro.mk _ (Eff.mk (some (63, _)) []) [], Ro.mk _ (Eff.mk (some (64, _)) []) [], Ro.mk _ (Eff.mk (some (65, _)) [(4, _)]) [4], Ro.mk _ (Eff.mk (some (66, _)) []) [], Ro.mk _ (Eff.mk (some (67, _)) []) [], Ro.mk _ (Eff.mk (some (68, _)) []) [], Ro.mk _ (Eff.mk (some (69, _)) []) [], Ro.mk _ (Eff.mk (some (70, _)) [(5, _)]) [5], Ro.mk _ (Eff.mk (some (71, _)) [(4, .dead), (6, _)]) [4, 5, 6], Ro.mk _ (Eff.mk (some (72, _)) []) [], Ro.mk _ (Eff.mk (some (73, _)) []) [], Ro.mk _ (Eff.mk (some (74, _)) []) [], Ro.mk _ (Eff.mk (some (75, _)) [(6, .dead), (7, _)]) [6, 7], Ro.mk _ (Eff.mk (some (5, _)) []) []] rfl ⟨(fun _ _ => .move rfl rfl), (fun _ _ => .move rfl rfl), (fun _ _ => .slice rfl rfl rfl rfl rfl et32 it_len (by decide) (by omega) (by omega)), (fun _ _ => .append0 4 rfl rfl rfl ap32 rfl rfl trivial (it_all _) (by simp; omega) (by simp; omega)), (fun _ _ => .move rfl rfl), (fun _ _ => .move rfl rfl), (fun _ _ => .idx (A[i]) rfl rfl rfl rfl et32 it_len (Int.natCast_nonneg _) (get_nat (hi))), (fun _ _ => .ldem (ds := A[i].dv) rfl rfl rfl rfl rfl tk28), (fun _ _ => .buildsl (ds := A[i].dv) 5 rfl rfl rfl ap32 zc28 rfl rfl rfl), (fun _ _ => .append 6 rfl rfl rfl (it_flat _) rfl ap32 rfl rfl (okA_len rfl rfl) (it_one _) (by simp; omega) (by simp; omega)), (fun _ _ => .move rfl rfl), (fun _ _ => .move rfl rfl), (fun _ _ => .slice rfl rfl rfl rfl rfl et32 it_len (Int.natCast_nonneg _) (by omega) (by omega)), (fun _ _ => .append 7 rfl rfl rfl (by rw [List.length_append, it_flat, it_len]; omega) rfl ap32 rfl rfl trivial (it_all _) (by simp; omega) (by simp; omega)), (fun _ _ => .assign rfl rfl), trivial⟩ (by kernel_rfl) ?_
          refine TE.blk ?_
          refine .next ?_
          refine .region ?_
          refine .step rfl (.move rfl rfl) ?_
          refine .step rfl (.binv (.int .i64 ((i + 1 : Nat) : Int)) rfl rfl rfl rfl (congrArg _ (by (try dsimp only); rw [IntKind.wrap_i64]; omega))) ?_
          refine .step rfl (.assign rfl rfl) ?_
          refine .nil ?_
          refine TE.set 5 (.ow 7 (out.take k ++ [A[i]] ++ out.drop k).length 64) rfl (by simp; omega) ?_
          refine TE.obj 7 (.row 28 64 (((out.take k ++ [A[i]] ++ out.drop k)).flatMap It.dv)) rfl (by simp [List.flatMap_append]) ?_
          refine TE.setv 7 (.int .i64 ((i + 1 : Nat) : Int)) rfl (congrArg _ (by first | rfl | (dsimp only; first | done | rfl | omega))) ?_
          exact TE.round (swp 1 7) (swp_inj 1 7) ((i + 1, (out.take k ++ [A[i]] ++ out.drop k))) ⟨by show i + 1 ≤ _; omega, by show (out.take k ++ [A[i]] ++ out.drop k).length ≤ i + 1; rw [← insR_new hpl hno]; have := insR_len out A[i]; omega, by show (out.take k ++ [A[i]] ++ out.drop k) = (A.take (i + 1)).foldl insR []; rw [foldl_snoc hi, ← i3, insR_new hpl hno]⟩ (by show _ - (i + 1) < _ - i; omega) ⟨⟨rfl, rfl⟩, ⟨rfl, rfl⟩, ⟨rfl, rfl⟩, ⟨rfl, rfl⟩, ⟨rfl, rfl⟩, trivial⟩ ⟨.inr rfl, .inl rfl, .inl rfl, trivial⟩
    · skip
      have hpl := plc_none hk k1 hj
      have hno : ∀ hk : k < out.length, ¬ alike out[k] A[i] = true := fun q => absurd q hk
      refine .draw mixed [Ro.mk _ (Eff.mk (some (19, _)) []) [], Ro.mk _ (Eff.mk (some (20, _)) []) [], Ro.mk _ (Eff.mk (some (21, _)) []) [1], Ro.mk _ (Eff.mk (some (22, _)) []) [], Ro.mk _ (Eff.mk (some (23, _)) []) [], Ro.mk _ (Eff.mk (some (24, _)) []) [], Ro.mk _ (Eff.mk (some (25, _)) []) [], Ro.mk _ (Eff.mk (some (26, _)) []) [], Ro.mk _ (Eff.mk (some (27, _)) []) [], Ro.mk _ (Eff.mk (some (28, _)) []) [], Ro.mk _ (Eff.mk (some (29, _)) []) [], Ro.mk _ (Eff.mk (some (30, _)) []) [], Ro.mk _ (Eff.mk (some (31, _)) []) [], Ro.mk _ (Eff.mk (some (32, _)) []) [], Ro.mk _ (Eff.mk (some (33, _)) []) [], Ro.mk _ (Eff.mk (some (34, _)) []) [], Ro.mk _ (Eff.mk (some (35, _)) []) []] rfl ⟨(fun _ _ => .move rfl rfl), (fun _ _ => .move rfl rfl), (fun _ _ => .leno rfl rfl rfl is32), (fun _ _ => .binv (.bool false) rfl rfl rfl rfl (congrArg Value.bool (decide_eq_false (by omega)))), (fun _ _ => .move rfl rfl), (.inr ⟨23, _, rfl, rfl, rfl, rfl, 24, rfl, rfl, rfl⟩), (.inr ⟨23, _, rfl, rfl, rfl, rfl, 25, rfl, rfl, rfl⟩), (.inr ⟨23, _, rfl, rfl, rfl, rfl, 26, rfl, rfl, rfl⟩), (.inr ⟨23, _, rfl, rfl, rfl, rfl, 27, rfl, rfl, rfl⟩), (.inr ⟨23, _, rfl, rfl, rfl, rfl, 28, rfl, rfl, rfl⟩), (.inr ⟨23, _, rfl, rfl, rfl, rfl, 29, rfl, rfl, rfl⟩), (.inr ⟨23, _, rfl, rfl, rfl, rfl, 30, rfl, rfl, rfl⟩), (.inr ⟨23, _, rfl, rfl, rfl, rfl, 31, rfl, rfl, rfl⟩), (.inr ⟨23, _, rfl, rfl, rfl, rfl, 32, rfl, rfl, rfl⟩), (.inr ⟨23, _, rfl, rfl, rfl, rfl, 33, rfl, rfl, rfl⟩), (.inr ⟨23, _, rfl, rfl, rfl, rfl, 34, rfl, rfl, rfl⟩), (fun _ _ => .pick rfl rfl rfl), trivial⟩ (by kernel_rfl) ?_
      refine .next ?_
      refine .cond rfl (fun h5 => absurd h5 (by decide)) (fun h5 => ?_)
      refine .exit ?_
      refine TE.pass ?_
      refine TE.pass ?_
      refine TE.here ?_
      refine .next ?_
      refine .seq ?_
      refine .draw mixed [Ro.mk _ (Eff.mk (some (38, _)) []) [], Ro.mk _ (Eff.mk (some (39, _)) []) [], Ro.mk _ (Eff.mk (some (40, _)) []) [1], Ro.mk _ (Eff.mk (some (41, _)) []) [], Ro.mk _ (Eff.mk (some (42, _)) []) [], Ro.mk _ (Eff.mk (some (43, _)) []) [], Ro.mk _ (Eff.mk (some (44, _)) []) [], Ro.mk _ (Eff.mk (some (45, _)) []) [], Ro.mk _ (Eff.mk (some (46, _)) []) [], Ro.mk _ (Eff.mk (some (47, _)) []) [], Ro.mk _ (Eff.mk (some (48, _)) []) [], Ro.mk _ (Eff.mk (some (49, _)) []) [], Ro.mk _ (Eff.mk (some (50, _)) []) [], Ro.mk _ (Eff.mk (some (51, _)) []) [], Ro.mk _ (Eff.mk (some (52, _)) []) [], Ro.mk _ (Eff.mk (some (53, _)) []) [], Ro.mk _ (Eff.mk (some (54, _)) []) []] rfl ⟨(fun _ _ => .move rfl rfl), (fun _ _ => .move rfl rfl), (fun _ _ => .leno rfl rfl rfl is32), (fun _ _ => .binv (.bool false) rfl rfl rfl rfl (congrArg Value.bool (decide_eq_false (by omega)))), (fun _ _ => .move rfl rfl), (.inr ⟨42, _, rfl, rfl, rfl, rfl, 43, rfl, rfl, rfl⟩), (.inr ⟨42, _, rfl, rfl, rfl, rfl, 44, rfl, rfl, rfl⟩), (.inr ⟨42, _, rfl, rfl, rfl, rfl, 45, rfl, rfl, rfl⟩), (.inr ⟨42, _, rfl, rfl, rfl, rfl, 46, rfl, rfl, rfl⟩), (.inr ⟨42, _, rfl, rfl, rfl, rfl, 47, rfl, rfl, rfl⟩), (.inr ⟨42, _, rfl, rfl, rfl, rfl, 48, rfl, rfl, rfl⟩), (.inr ⟨42, _, rfl, rfl, rfl, rfl, 49, rfl, rfl, rfl⟩), (.inr ⟨42, _, rfl, rfl, rfl, rfl, 50, rfl, rfl, rfl⟩), (.inr ⟨42, _, rfl, rfl, rfl, rfl, 51, rfl, rfl, rfl⟩), (.inr ⟨42, _, rfl, rfl, rfl, rfl, 52, rfl, rfl, rfl⟩), (.inr ⟨42, _, rfl, rfl, rfl, rfl, 53, rfl, rfl, rfl⟩), (fun _ _ => .pick rfl rfl rfl), trivial⟩ (by kernel_rfl) ?_
      refine .next ?_
      refine .cond rfl (fun h6 => absurd h6 (by decide)) (fun h6 => ?_)
      refine TC.frz 5 (slT It.dv 64 (out)) rfl rfl (it_flat _) rfl ?_
      refine .draw mixed [Ro.mk _ (Eff.mk (some (62, _)) []) [], Ro.mk _ (Eff.mk (some (63, _)) []) [], Ro.mk _ (Eff.mk (some (64, _)) []) [], Ro.mk _ (Eff.mk (some (65, _)) [(8, _)]) [8], Ro.mk _ (Eff.mk (some (66, _)) []) [], Ro.mk _ (Eff.mk (some (67, _)) []) [], Ro.mk _ (Eff.mk (some (68, _)) []) [], Ro.mk _ (Eff.mk (some (69, _)) []) [], Ro.mk _ (Eff.mk (some (70, _)) [(9, _)]) [9], Ro.mk _ (Eff.mk (some (71, _)) [(8, .dead), (10, _)]) [8, 9, 10], Ro.mk _ (Eff.mk (some (72, _)) []) [], Ro.mk _ (Eff.mk (some (73, _)) []) [], Ro.mk _ (Eff.mk (some (74, _)) []) [], Ro.mk _ (Eff.mk (some (75, _)) [(10, .dead), (11, _)]) [10, 11], Ro.mk _ (Eff.mk (some (5, _)) []) []] rfl ⟨(fun _ _ => .move rfl rfl), (fun _ _ => .move rfl rfl), (fun _ _ => .slice rfl rfl rfl rfl rfl et32 it_len (by decide) (by omega) (by omega)), (fun _ _ => .append0 8 rfl rfl rfl ap32 rfl rfl trivial (it_all _) (by simp; omega) (by simp; omega)), (fun _ _ => .move rfl rfl), (fun _ _ => .move rfl rfl), (fun _ _ => .idx (A[i]) rfl rfl rfl rfl et32 it_len (Int.natCast_nonneg _) (get_nat (hi))), (fun _ _ => .ldem (ds := A[i].dv) rfl rfl rfl rfl rfl tk28), (fun _ _ => .buildsl (ds := A[i].dv) 9 rfl rfl rfl ap32 zc28 rfl rfl rfl), (fun _ _ => .append 10 rfl rfl rfl (it_flat _) rfl ap32 rfl rfl (okA_len rfl rfl) (it_one _) (by simp; omega) (by simp; omega)), (fun _ _ => .move rfl rfl), (fun _ _ => .move rfl rfl), (fun _ _ => .slice rfl rfl rfl rfl rfl et32 it_len (Int.natCast_nonneg _) (by omega) (by omega)), (fun _ _ => .append 11 rfl rfl rfl (by rw [List.length_append, it_flat, it_len]; omega) rfl ap32 rfl rfl trivial (it_all _) (by simp; omega) (by simp; omega)), (fun _ _ => .assign rfl rfl), trivial⟩ (by kernel_rfl) ?_
      refine TE.blk ?_
      refine .next ?_
      refine .region ?_
      refine .step rfl (.move rfl rfl) ?_
      refine .step rfl (.binv (.int .i64 ((i + 1 : Nat) : Int)) rfl rfl rfl rfl (congrArg _ (by (try dsimp only); rw [IntKind.wrap_i64]; omega))) ?_
      refine .step rfl (.assign rfl rfl) ?_
      refine .nil ?_
      refine TE.set 5 (.ow 11 (out.take k ++ [A[i]] ++ out.drop k).length 64) rfl (by simp; omega) ?_
      refine TE.obj 11 (.row 28 64 (((out.take k ++ [A[i]] ++ out.drop k)).flatMap It.dv)) rfl (by simp [List.flatMap_append]) ?_
      refine TE.setv 7 (.int .i64 ((i + 1 : Nat) : Int)) rfl (congrArg _ (by first | rfl | (dsimp only; first | done | rfl | omega))) ?_
      exact TE.round (swp 1 11) (swp_inj 1 11) ((i + 1, (out.take k ++ [A[i]] ++ out.drop k))) ⟨by show i + 1 ≤ _; omega, by show (out.take k ++ [A[i]] ++ out.drop k).length ≤ i + 1; rw [← insR_new hpl hno]; have := insR_len out A[i]; omega, by show (out.take k ++ [A[i]] ++ out.drop k) = (A.take (i + 1)).foldl insR []; rw [foldl_snoc hi, ← i3, insR_new hpl hno]⟩ (by show _ - (i + 1) < _ - i; omega) ⟨⟨rfl, rfl⟩, ⟨rfl, rfl⟩, ⟨rfl, rfl⟩, ⟨rfl, rfl⟩, ⟨rfl, rfl⟩, trivial⟩ ⟨.inr rfl, .inl rfl, .inl rfl, trivial⟩
  · skip
    have hi : ¬ (i < A.length) := by have q := of_decide_eq_false h1; (try dsimp only at q); omega
    have e : out = A.foldl insR [] := by rw [i3, show i = A.length by omega, List.take_length]
    refine .exit ?_
    refine TE.pass ?_
    refine TE.pass ?_
    refine TE.here ?_
    refine .next ?_
    refine .seq ?_
    refine .region ?_
    refine .step rfl (.move rfl rfl) ?_
    refine .step rfl (.assign rfl rfl) ?_
    refine .nil ?_
    refine .next ?_
    refine .ret ?_
    rw [← e]
    exact TE.retof rfl rfl rfl (it_flat _) (by decide) (pl_flat pl_it _)
end Go.Proofs.Ytejhgijjegnmnaa

