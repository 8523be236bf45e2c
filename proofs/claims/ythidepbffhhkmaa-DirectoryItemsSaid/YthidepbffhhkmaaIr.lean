/-
  DirectoryItems.
-/
import Derived.Test.YthidepbffhhkmaaIq
import Derived.Test.YthidepbffhhkmaaEf
namespace Go.Proofs.Ythidepbffhhkmaa
set_option linter.unusedVariables false
set_option linter.unusedSimpArgs false
open Go.RowKit Pl


set_option maxRecDepth 100000 in
set_option maxHeartbeats 1600000 in
theorem directoryItems_pf (l : List UInt8) (b : UInt8) : PF Try.prog 3 [slT bdv 1 l, .v (.int .u8 ((b.toNat : Nat) : Int))] (.v (.bool true)) := by
  obtain ⟨D, hD⟩ : ∃ D, D = dirD l := ⟨_, rfl⟩
  have hc : chainK none D := hD ▸ dirD_chain l
  have hDl : D.length ≤ l.length := hD ▸ dirD_len l
  have hDf : epFit D := hD ▸ dirD_fit l
  have kd : ∀ (h : l.length ≤ 1048576), PC Try.prog 9 [slT bdv 1 l] (slT Kn.dv 4 D) := fun h => hD ▸ dir_pc l h
  have hD := Lib.hid hD
  have hDi : idxInj D := hD.out ▸ dirD_inj l
  obtain ⟨n, hn⟩ : ∃ n : Int, n = ((b.toNat % 12 : Nat) : Int) := ⟨_, rfl⟩
  obtain ⟨I, hI⟩ : ∃ I, I = setA [] (itsK n D) := ⟨_, rfl⟩
  have hper : I.Perm ((lastL n D).map knI) := by rw [hI, setA_sr]; exact setR_perm hc hDi
  have hIn : I.length = (lastL n D).length := by rw [hper.length_eq, List.length_map]
  have hIl : I.length ≤ D.length := by rw [hI]; exact items_len D n
  have a1 : ∀ (h : D.length ≤ 1048576), PC Try.prog 10 [slT Kn.dv 4 D, .v (.int .i64 n)] (slT It.dv 64 I) := fun h => hI ▸ items_pc D n h (kn_in hc)
  have hI := Lib.hid hI
  refine PF.enter (fn := Try.f3) Try.func3 rfl Try.ntmps3 rfl (fun w0 => ?_)
  refine .seq ?_
  refine .region ?_
  refine .step rfl (.assign rfl rfl) ?_
  refine .nil ?_
  refine .next ?_
  refine .seq ?_
  refine .seq ?_
  refine .region ?_
  refine .step rfl (.callf rfl cf8 rfl trivial (known_pf)) ?_
  refine .step rfl (.un rfl rfl rfl) ?_
  refine .nil ?_
  refine .next ?_
  refine .cond rfl (fun h1 => absurd h1 (by decide)) (fun h1 => ?_)
  refine .skip ?_
  refine .next ?_
  refine .seq ?_
  refine .seq ?_
  by_cases h20 : 20 < l.length
  · skip
    refine .region ?_
    refine .step rfl (.move rfl rfl) ?_
    refine .step rfl (.len rfl rfl ⟨_, _, rfl⟩ is22) ?_
    refine .step rfl (.binv (.bool true) rfl rfl rfl rfl (congrArg Value.bool (decide_eq_true (by omega)))) ?_
    refine .nil ?_
    refine .next ?_
    refine .cond rfl (fun h3 => ?_) (fun h3 => absurd h3 (by decide))
    refine .seq ?_
    refine .region ?_
    refine .step rfl (.assign rfl rfl) ?_
    refine .nil ?_
    refine .next ?_
    refine .ret ?_
    exact TE.retf rfl rfl rfl trivial
  · skip
    refine .region ?_
    refine .step rfl (.move rfl rfl) ?_
    refine .step rfl (.len rfl rfl ⟨_, _, rfl⟩ is22) ?_
    refine .step rfl (.binv (.bool false) rfl rfl rfl rfl (congrArg Value.bool (decide_eq_false (by omega)))) ?_
    refine .nil ?_
    refine .next ?_
    refine .cond rfl (fun h4 => absurd h4 (by decide)) (fun h4 => ?_)
    refine .skip ?_
    refine .next ?_
    refine .seq ?_
    refine .region ?_
    refine .step rfl (.move rfl rfl) ?_
    refine .step rfl (.callc rfl cf9 rfl (kd (by omega))) ?_
    refine .step rfl (.assign rfl rfl) ?_
    refine .nil ?_
    refine .next ?_
    refine .seq ?_
    refine .region ?_
    refine .step rfl (.move rfl rfl) ?_
    refine .step rfl (.rem (((b.toNat % 12 : Nat) : Int)) rfl rfl rfl (by decide) (by rw [Int.tmod_eq_emod_of_nonneg (by omega)]; omega)) ?_
    refine .step rfl (.conviv (n) rfl rfl uk5 uk3 (by rw [IntKind.wrap_i64]; omega)) ?_
    refine .step rfl (.assign rfl rfl) ?_
    refine .nil ?_
    refine TE.setv 6 (.int .i64 n) rfl rfl ?_
    refine .next ?_
    refine .seq ?_
    refine .region ?_
    refine .step rfl (.move rfl rfl) ?_
    refine .step rfl (.move rfl rfl) ?_
    refine .step rfl (.callc rfl cf10 rfl (a1 (by omega))) ?_
    refine .step rfl (.assign rfl rfl) ?_
    refine .nil ?_
    refine .next ?_
    refine .seq ?_
    refine .region ?_
    refine .step rfl (.assign rfl rfl) ?_
    refine .nil ?_
    refine TE.setv 8 (.int .i64 ((0 : Nat) : Int)) rfl (congrArg _ (by first | rfl | (dsimp only; first | done | rfl | omega))) ?_
    refine .next ?_
    refine .seq ?_
    refine .seq ?_
    refine .region ?_
    refine .step rfl (.assign rfl rfl) ?_
    refine .nil ?_
    refine TE.setv 9 (.int .i64 ((0 : Nat) : Int)) rfl (congrArg _ (by first | rfl | (dsimp only; first | done | rfl | omega))) ?_
    refine .next ?_
    refine .block ?_
    refine TC.loop (S := Nat × Nat) (fun x => x.1 ≤ D.length ∧ x.2 + (lastL n (D.drop x.1)).length = (lastL n D).length) (fun x => D.length - x.1) (fun x => [(0, .d (slT bdv 1 l)), (1, .d (.v (.int .u8 ((b.toNat : Nat) : Int)))), (5, .d (slT Kn.dv 4 D)), (6, .d (.v (.int .i64 n))), (7, .d (slT It.dv 64 I)), (8, .d (.v (.int .i64 ((x.2 : Nat) : Int)))), (9, .d (.v (.int .i64 ((x.1 : Nat) : Int))))]) (fun x => []) ((0, 0)) ⟨Nat.zero_le _, by show 0 + _ = _; rw [List.drop_zero, Nat.zero_add]⟩ ⟨⟨rfl, rfl⟩, ⟨rfl, rfl⟩, ⟨rfl, rfl⟩, ⟨rfl, rfl⟩, ⟨rfl, rfl⟩, ⟨rfl, rfl⟩, ⟨rfl, rfl⟩, trivial⟩ trivial (fun x hI => ?_)
    obtain ⟨i, c⟩ := x
    obtain ⟨i1, i2⟩ := hI
    have i1 : i ≤ D.length := i1
    have i2 : c + (lastL n (D.drop i)).length = (lastL n D).length := i2
    refine .seq ?_
    refine .seq ?_
    refine .region ?_
    refine .step rfl (.move rfl rfl) ?_
    refine .step rfl (.move rfl rfl) ?_
    refine .step rfl (.len rfl rfl ⟨_, _, rfl⟩ is24) ?_
    refine .step rfl (.bin rfl rfl rfl rfl) ?_
    refine .nil ?_
    refine .next ?_
    refine .cond rfl (fun h5 => ?_) (fun h5 => ?_)
    · skip
      have hi : i < D.length := by have q := of_decide_eq_true h5; (try dsimp only at q); omega
      have hin := kn_in hc _ (List.getElem_mem hi)
      refine .skip ?_
      refine .next ?_
      refine .seq ?_
      refine .block ?_
      refine .seq ?_
      refine .region ?_
      refine .step rfl (.move rfl rfl) ?_
      refine .step rfl (.move rfl rfl) ?_
      refine .step rfl (.idx (D[i]) rfl rfl rfl rfl et24 (fun _ => rfl) (Int.natCast_nonneg _) (get_nat hi)) ?_
      refine .step rfl (.fielde rfl rfl rfl fo32_0) ?_
      refine .step rfl (.ldem (ds := (En.dv ⟨D[i].nm, D[i].ver, D[i].key⟩)) rfl rfl rfl rfl rfl tk30) ?_
      refine .step rfl (.alloc 1 rfl rfl zc30 rfl) ?_
      refine .step rfl (.store rfl rfl rfl sz30 rfl rfl) ?_
      refine .nil ?_
      refine TE.frzb 10 rfl rfl rfl rfl ?_
      refine .next ?_
      refine .seq ?_
      by_cases hi1 : i + 1 < D.length
      · skip
        by_cases hnm : D[i + 1].nm = D[i].nm
        · skip
          by_cases hep1 : D[i + 1].ep ≤ n
          · skip
            refine .draw mixed [Ro.mk _ (Eff.mk (some (38, _)) []) [], Ro.mk _ (Eff.mk (some (39, _)) []) [], Ro.mk _ (Eff.mk (some (40, _)) []) [], Ro.mk _ (Eff.mk (some (41, _)) []) [], Ro.mk _ (Eff.mk (some (42, _)) []) [], Ro.mk _ (Eff.mk (some (43, _)) []) [], Ro.mk _ (Eff.mk (some (44, _)) []) [], Ro.mk _ (Eff.mk (some (45, _)) []) [], Ro.mk _ (Eff.mk (some (46, _)) []) [], Ro.mk _ (Eff.mk (some (47, _)) []) [], Ro.mk _ (Eff.mk (some (48, _)) []) [], Ro.mk _ (Eff.mk (some (49, _)) []) [], Ro.mk _ (Eff.mk (some (50, _)) []) [], Ro.mk _ (Eff.mk (some (51, _)) []) [], Ro.mk _ (Eff.mk (some (52, _)) []) [], Ro.mk _ (Eff.mk (some (53, _)) []) [], Ro.mk _ (Eff.mk (some (54, _)) []) [], Ro.mk _ (Eff.mk (some (55, _)) []) [], Ro.mk _ (Eff.mk (some (56, _)) []) [], Ro.mk _ (Eff.mk (some (57, _)) []) [], Ro.mk _ (Eff.mk (some (58, _)) []) [], Ro.mk _ (Eff.mk (some (59, _)) []) [], Ro.mk _ (Eff.mk (some (60, _)) []) [], Ro.mk _ (Eff.mk (some (61, _)) []) [], Ro.mk _ (Eff.mk (some (62, _)) []) [], Ro.mk _ (Eff.mk (some (63, _)) []) [], Ro.mk _ (Eff.mk (some (64, _)) []) [], Ro.mk _ (Eff.mk (some (11, _)) []) []] rfl ⟨(fun _ _ => .move rfl rfl), (fun _ _ => .binv (.int .i64 ((i + 1 : Nat) : Int)) rfl rfl rfl rfl (congrArg _ (by (try dsimp only); rw [IntKind.wrap_i64]; omega))), (fun _ _ => .move rfl rfl), (fun _ _ => .len rfl rfl ⟨_, _, rfl⟩ is24), (fun _ _ => .binv (.bool true) rfl rfl rfl rfl (congrArg Value.bool (decide_eq_true (by omega)))), (fun _ _ => .move rfl rfl), (.inr ⟨43, _, rfl, rfl, rfl, rfl, fun _ _ => .move rfl rfl⟩), (.inr ⟨43, _, rfl, rfl, rfl, rfl, fun _ _ => .move rfl rfl⟩), (.inr ⟨43, _, rfl, rfl, rfl, rfl, fun _ _ => .binv (.int .i64 ((i + 1 : Nat) : Int)) rfl rfl rfl rfl (congrArg _ (by (try dsimp only); rw [IntKind.wrap_i64]; omega))⟩), (.inr ⟨43, _, rfl, rfl, rfl, rfl, fun _ _ => .idx (D[i + 1]) rfl rfl rfl rfl et24 (fun _ => rfl) (Int.natCast_nonneg _) (get_nat hi1)⟩), (.inr ⟨43, _, rfl, rfl, rfl, rfl, fun _ _ => .fielde rfl rfl rfl fo32_0⟩), (.inr ⟨43, _, rfl, rfl, rfl, rfl, fun _ _ => .fielde rfl rfl rfl fo30_0⟩), (.inr ⟨43, _, rfl, rfl, rfl, rfl, fun _ _ => .lde rfl rfl rfl rfl tk9⟩), (.inr ⟨43, _, rfl, rfl, rfl, rfl, fun _ _ => .fielde rfl rfl rfl fo30_0⟩), (.inr ⟨43, _, rfl, rfl, rfl, rfl, fun _ _ => .lde rfl rfl rfl rfl tk9⟩), (.inr ⟨43, _, rfl, rfl, rfl, rfl, fun _ _ => .binv (.bool true) rfl rfl rfl rfl (congrArg Value.bool (decide_eq_true hnm))⟩), (fun _ _ => .pick rfl rfl rfl), (fun _ _ => .move rfl rfl), (.inr ⟨55, _, rfl, rfl, rfl, rfl, fun _ _ => .move rfl rfl⟩), (.inr ⟨55, _, rfl, rfl, rfl, rfl, fun _ _ => .move rfl rfl⟩), (.inr ⟨55, _, rfl, rfl, rfl, rfl, fun _ _ => .binv (.int .i64 ((i + 1 : Nat) : Int)) rfl rfl rfl rfl (congrArg _ (by (try dsimp only); rw [IntKind.wrap_i64]; omega))⟩), (.inr ⟨55, _, rfl, rfl, rfl, rfl, fun _ _ => .idx (D[i + 1]) rfl rfl rfl rfl et24 (fun _ => rfl) (Int.natCast_nonneg _) (get_nat hi1)⟩), (.inr ⟨55, _, rfl, rfl, rfl, rfl, fun _ _ => .fielde rfl rfl rfl fo32_1⟩), (.inr ⟨55, _, rfl, rfl, rfl, rfl, fun _ _ => .lde rfl rfl rfl rfl tk3⟩), (.inr ⟨55, _, rfl, rfl, rfl, rfl, fun _ _ => .move rfl rfl⟩), (.inr ⟨55, _, rfl, rfl, rfl, rfl, fun _ _ => .binv (.bool true) rfl rfl rfl rfl (congrArg Value.bool (decide_eq_true hep1))⟩), (fun _ _ => .pick rfl rfl rfl), (fun _ _ => .assign rfl rfl), trivial⟩ (by kernel_rfl) ?_
            refine .next ?_
            refine .seq ?_
            refine .seq ?_
            by_cases hep : n < D[i].ep
            · skip
              refine .region ?_
              refine .step rfl (.move rfl rfl) ?_
              refine .step rfl (.move rfl rfl) ?_
              refine .step rfl (.idx (D[i]) rfl rfl rfl rfl et24 (fun _ => rfl) (Int.natCast_nonneg _) (get_nat hi)) ?_
              refine .step rfl (.fielde rfl rfl rfl fo32_1) ?_
              refine .step rfl (.lde rfl rfl rfl rfl tk3) ?_
              refine .step rfl (.move rfl rfl) ?_
              refine .step rfl (.binv (.bool true) rfl rfl rfl rfl (congrArg Value.bool (decide_eq_true (by omega)))) ?_
              refine .step rfl (.move rfl rfl) ?_
              refine .no 72 rfl rfl rfl rfl rfl rfl rfl ?_
              refine .step rfl (.pick rfl rfl rfl) ?_
              refine .nil ?_
              refine .next ?_
              refine .cond rfl (fun h10 => ?_) (fun h10 => absurd h10 (by decide))
              refine .exit ?_
              refine TE.pass ?_
              refine TE.here ?_
              refine .next ?_
              refine .region ?_
              refine .step rfl (.move rfl rfl) ?_
              refine .step rfl (.binv (.int .i64 ((i + 1 : Nat) : Int)) rfl rfl rfl rfl (congrArg _ (by (try dsimp only); rw [IntKind.wrap_i64]; omega))) ?_
              refine .step rfl (.assign rfl rfl) ?_
              refine .nil ?_
              refine TE.setv 9 (.int .i64 ((i + 1 : Nat) : Int)) rfl (congrArg _ (by first | rfl | (dsimp only; first | done | rfl | omega))) ?_
              exact TE.round id (fun _ _ e => e) ((i + 1, c)) ⟨by show i + 1 ≤ D.length; omega, by first | (rw [← lastL_off (n := n) hi (by omega)]; exact i2) | (rw [← lastL_later (n := n) hi hi1 hnm hep1]; exact i2)⟩ (by show D.length - (i + 1) < D.length - i; omega) ⟨⟨rfl, rfl⟩, ⟨rfl, rfl⟩, ⟨rfl, rfl⟩, ⟨rfl, rfl⟩, ⟨rfl, rfl⟩, ⟨rfl, rfl⟩, ⟨rfl, rfl⟩, trivial⟩ trivial
            · skip
              refine .region ?_
              refine .step rfl (.move rfl rfl) ?_
              refine .step rfl (.move rfl rfl) ?_
              refine .step rfl (.idx (D[i]) rfl rfl rfl rfl et24 (fun _ => rfl) (Int.natCast_nonneg _) (get_nat hi)) ?_
              refine .step rfl (.fielde rfl rfl rfl fo32_1) ?_
              refine .step rfl (.lde rfl rfl rfl rfl tk3) ?_
              refine .step rfl (.move rfl rfl) ?_
              refine .step rfl (.binv (.bool false) rfl rfl rfl rfl (congrArg Value.bool (decide_eq_false (by omega)))) ?_
              refine .step rfl (.move rfl rfl) ?_
              refine .go 72 rfl rfl rfl rfl (.move rfl rfl) ?_
              refine .step rfl (.pick rfl rfl rfl) ?_
              refine .nil ?_
              refine .next ?_
              refine .cond rfl (fun h11 => ?_) (fun h11 => absurd h11 (by decide))
              refine .exit ?_
              refine TE.pass ?_
              refine TE.here ?_
              refine .next ?_
              refine .region ?_
              refine .step rfl (.move rfl rfl) ?_
              refine .step rfl (.binv (.int .i64 ((i + 1 : Nat) : Int)) rfl rfl rfl rfl (congrArg _ (by (try dsimp only); rw [IntKind.wrap_i64]; omega))) ?_
              refine .step rfl (.assign rfl rfl) ?_
              refine .nil ?_
              refine TE.setv 9 (.int .i64 ((i + 1 : Nat) : Int)) rfl (congrArg _ (by first | rfl | (dsimp only; first | done | rfl | omega))) ?_
              exact TE.round id (fun _ _ e => e) ((i + 1, c)) ⟨by show i + 1 ≤ D.length; omega, by first | (rw [← lastL_off (n := n) hi (by omega)]; exact i2) | (rw [← lastL_later (n := n) hi hi1 hnm hep1]; exact i2)⟩ (by show D.length - (i + 1) < D.length - i; omega) ⟨⟨rfl, rfl⟩, ⟨rfl, rfl⟩, ⟨rfl, rfl⟩, ⟨rfl, rfl⟩, ⟨rfl, rfl⟩, ⟨rfl, rfl⟩, ⟨rfl, rfl⟩, trivial⟩ trivial
          · skip
            refine .draw mixed [Ro.mk _ (Eff.mk (some (38, _)) []) [], Ro.mk _ (Eff.mk (some (39, _)) []) [], Ro.mk _ (Eff.mk (some (40, _)) []) [], Ro.mk _ (Eff.mk (some (41, _)) []) [], Ro.mk _ (Eff.mk (some (42, _)) []) [], Ro.mk _ (Eff.mk (some (43, _)) []) [], Ro.mk _ (Eff.mk (some (44, _)) []) [], Ro.mk _ (Eff.mk (some (45, _)) []) [], Ro.mk _ (Eff.mk (some (46, _)) []) [], Ro.mk _ (Eff.mk (some (47, _)) []) [], Ro.mk _ (Eff.mk (some (48, _)) []) [], Ro.mk _ (Eff.mk (some (49, _)) []) [], Ro.mk _ (Eff.mk (some (50, _)) []) [], Ro.mk _ (Eff.mk (some (51, _)) []) [], Ro.mk _ (Eff.mk (some (52, _)) []) [], Ro.mk _ (Eff.mk (some (53, _)) []) [], Ro.mk _ (Eff.mk (some (54, _)) []) [], Ro.mk _ (Eff.mk (some (55, _)) []) [], Ro.mk _ (Eff.mk (some (56, _)) []) [], Ro.mk _ (Eff.mk (some (57, _)) []) [], Ro.mk _ (Eff.mk (some (58, _)) []) [], Ro.mk _ (Eff.mk (some (59, _)) []) [], Ro.mk _ (Eff.mk (some (60, _)) []) [], Ro.mk _ (Eff.mk (some (61, _)) []) [], Ro.mk _ (Eff.mk (some (62, _)) []) [], Ro.mk _ (Eff.mk (some (63, _)) []) [], Ro.mk _ (Eff.mk (some (64, _)) []) [], Ro.mk _ (Eff.mk (some (11, _)) []) []] rfl ⟨(fun _ _ => .move rfl rfl), (fun _ _ => .binv (.int .i64 ((i + 1 : Nat) : Int)) rfl rfl rfl rfl (congrArg _ (by (try dsimp only); rw [IntKind.wrap_i64]; omega))), (fun _ _ => .move rfl rfl), (fun _ _ => .len rfl rfl ⟨_, _, rfl⟩ is24), (fun _ _ => .binv (.bool true) rfl rfl rfl rfl (congrArg Value.bool (decide_eq_true (by omega)))), (fun _ _ => .move rfl rfl), (.inr ⟨43, _, rfl, rfl, rfl, rfl, fun _ _ => .move rfl rfl⟩), (.inr ⟨43, _, rfl, rfl, rfl, rfl, fun _ _ => .move rfl rfl⟩), (.inr ⟨43, _, rfl, rfl, rfl, rfl, fun _ _ => .binv (.int .i64 ((i + 1 : Nat) : Int)) rfl rfl rfl rfl (congrArg _ (by (try dsimp only); rw [IntKind.wrap_i64]; omega))⟩), (.inr ⟨43, _, rfl, rfl, rfl, rfl, fun _ _ => .idx (D[i + 1]) rfl rfl rfl rfl et24 (fun _ => rfl) (Int.natCast_nonneg _) (get_nat hi1)⟩), (.inr ⟨43, _, rfl, rfl, rfl, rfl, fun _ _ => .fielde rfl rfl rfl fo32_0⟩), (.inr ⟨43, _, rfl, rfl, rfl, rfl, fun _ _ => .fielde rfl rfl rfl fo30_0⟩), (.inr ⟨43, _, rfl, rfl, rfl, rfl, fun _ _ => .lde rfl rfl rfl rfl tk9⟩), (.inr ⟨43, _, rfl, rfl, rfl, rfl, fun _ _ => .fielde rfl rfl rfl fo30_0⟩), (.inr ⟨43, _, rfl, rfl, rfl, rfl, fun _ _ => .lde rfl rfl rfl rfl tk9⟩), (.inr ⟨43, _, rfl, rfl, rfl, rfl, fun _ _ => .binv (.bool true) rfl rfl rfl rfl (congrArg Value.bool (decide_eq_true hnm))⟩), (fun _ _ => .pick rfl rfl rfl), (fun _ _ => .move rfl rfl), (.inr ⟨55, _, rfl, rfl, rfl, rfl, fun _ _ => .move rfl rfl⟩), (.inr ⟨55, _, rfl, rfl, rfl, rfl, fun _ _ => .move rfl rfl⟩), (.inr ⟨55, _, rfl, rfl, rfl, rfl, fun _ _ => .binv (.int .i64 ((i + 1 : Nat) : Int)) rfl rfl rfl rfl (congrArg _ (by (try dsimp only); rw [IntKind.wrap_i64]; omega))⟩), (.inr ⟨55, _, rfl, rfl, rfl, rfl, fun _ _ => .idx (D[i + 1]) rfl rfl rfl rfl et24 (fun _ => rfl) (Int.natCast_nonneg _) (get_nat hi1)⟩), (.inr ⟨55, _, rfl, rfl, rfl, rfl, fun _ _ => .fielde rfl rfl rfl fo32_1⟩), (.inr ⟨55, _, rfl, rfl, rfl, rfl, fun _ _ => .lde rfl rfl rfl rfl tk3⟩), (.inr ⟨55, _, rfl, rfl, rfl, rfl, fun _ _ => .move rfl rfl⟩), (.inr ⟨55, _, rfl, rfl, rfl, rfl, fun _ _ => .binv (.bool false) rfl rfl rfl rfl (congrArg Value.bool (decide_eq_false hep1))⟩), (fun _ _ => .pick rfl rfl rfl), (fun _ _ => .assign rfl rfl), trivial⟩ (by kernel_rfl) ?_
            refine .next ?_
            refine .seq ?_
            refine .seq ?_
            by_cases hep : n < D[i].ep
            · skip
              refine .region ?_
              refine .step rfl (.move rfl rfl) ?_
              refine .step rfl (.move rfl rfl) ?_
              refine .step rfl (.idx (D[i]) rfl rfl rfl rfl et24 (fun _ => rfl) (Int.natCast_nonneg _) (get_nat hi)) ?_
              refine .step rfl (.fielde rfl rfl rfl fo32_1) ?_
              refine .step rfl (.lde rfl rfl rfl rfl tk3) ?_
              refine .step rfl (.move rfl rfl) ?_
              refine .step rfl (.binv (.bool true) rfl rfl rfl rfl (congrArg Value.bool (decide_eq_true (by omega)))) ?_
              refine .step rfl (.move rfl rfl) ?_
              refine .no 72 rfl rfl rfl rfl rfl rfl rfl ?_
              refine .step rfl (.pick rfl rfl rfl) ?_
              refine .nil ?_
              refine .next ?_
              refine .cond rfl (fun h13 => ?_) (fun h13 => absurd h13 (by decide))
              refine .exit ?_
              refine TE.pass ?_
              refine TE.here ?_
              refine .next ?_
              refine .region ?_
              refine .step rfl (.move rfl rfl) ?_
              refine .step rfl (.binv (.int .i64 ((i + 1 : Nat) : Int)) rfl rfl rfl rfl (congrArg _ (by (try dsimp only); rw [IntKind.wrap_i64]; omega))) ?_
              refine .step rfl (.assign rfl rfl) ?_
              refine .nil ?_
              refine TE.setv 9 (.int .i64 ((i + 1 : Nat) : Int)) rfl (congrArg _ (by first | rfl | (dsimp only; first | done | rfl | omega))) ?_
              exact TE.round id (fun _ _ e => e) ((i + 1, c)) ⟨by show i + 1 ≤ D.length; omega, by first | (rw [← lastL_off (n := n) hi (by omega)]; exact i2) | (rw [← lastL_later (n := n) hi hi1 hnm hep1]; exact i2)⟩ (by show D.length - (i + 1) < D.length - i; omega) ⟨⟨rfl, rfl⟩, ⟨rfl, rfl⟩, ⟨rfl, rfl⟩, ⟨rfl, rfl⟩, ⟨rfl, rfl⟩, ⟨rfl, rfl⟩, ⟨rfl, rfl⟩, trivial⟩ trivial
            · skip
              refine .region ?_
              refine .step rfl (.move rfl rfl) ?_
              refine .step rfl (.move rfl rfl) ?_
              refine .step rfl (.idx (D[i]) rfl rfl rfl rfl et24 (fun _ => rfl) (Int.natCast_nonneg _) (get_nat hi)) ?_
              refine .step rfl (.fielde rfl rfl rfl fo32_1) ?_
              refine .step rfl (.lde rfl rfl rfl rfl tk3) ?_
              refine .step rfl (.move rfl rfl) ?_
              refine .step rfl (.binv (.bool false) rfl rfl rfl rfl (congrArg Value.bool (decide_eq_false (by omega)))) ?_
              refine .step rfl (.move rfl rfl) ?_
              refine .go 72 rfl rfl rfl rfl (.move rfl rfl) ?_
              refine .step rfl (.pick rfl rfl rfl) ?_
              refine .nil ?_
              refine .next ?_
              refine .cond rfl (fun h14 => absurd h14 (by decide)) (fun h14 => ?_)
              refine .skip ?_
              refine .next ?_
              refine .seq ?_
              have hyes : lastL n (D.drop i) = D[i] :: lastL n (D.drop (i + 1)) := lastL_yes hi (by omega) (fun q r => by first | exact hi1 q | exact hnm r.1 | exact hep1 r.2)
              have hmem : knI D[i] ∈ I := hper.mem_iff.2 (List.mem_map.2 ⟨D[i], lastL_mem (i := i) (by rw [hyes]; simp), rfl⟩)
              refine .region ?_
              refine .step rfl (.move rfl rfl) ?_
              refine .step rfl (.binv (.int .i64 ((c + 1 : Nat) : Int)) rfl rfl rfl rfl (congrArg _ (by (try dsimp only); rw [IntKind.wrap_i64]; omega))) ?_
              refine .step rfl (.assign rfl rfl) ?_
              refine .nil ?_
              refine TE.setv 8 (.int .i64 ((c + 1 : Nat) : Int)) rfl (congrArg _ (by first | rfl | (dsimp only; first | done | rfl | omega))) ?_
              refine .next ?_
              refine .seq ?_
              refine .region ?_
              refine .step rfl (.assign rfl rfl) ?_
              refine .nil ?_
              refine .next ?_
              refine .seq ?_
              refine .seq ?_
              refine .region ?_
              refine .step rfl (.assign rfl rfl) ?_
              refine .nil ?_
              refine TE.setv 13 (.int .i64 ((0 : Nat) : Int)) rfl (congrArg _ (by first | rfl | (dsimp only; first | done | rfl | omega))) ?_
              refine TE.setv 12 (.bool false) rfl rfl ?_
              refine .next ?_
              refine .block ?_
              refine TC.loop (S := Nat × Bool) (fun z => z.1 ≤ I.length ∧ z.2 = (I.take z.1).any (fun x => decide (iB x = iB (knI D[i])))) (fun z => I.length - z.1) (fun z => [(0, .d (slT bdv 1 l)), (1, .d (.v (.int .u8 ((b.toNat : Nat) : Int)))), (5, .d (slT Kn.dv 4 D)), (6, .d (.v (.int .i64 n))), (7, .d (slT It.dv 64 I)), (8, .d (.v (.int .i64 ((c + 1 : Nat) : Int)))), (9, .d (.v (.int .i64 ((i : Nat) : Int)))), (10, .d (.el (En.dv ⟨D[i].nm, D[i].ver, D[i].key⟩))), (12, .d (.v (.bool z.2))), (13, .d (.v (.int .i64 ((z.1 : Nat) : Int))))]) (fun z => [(1, .dead)]) ((0, false)) ⟨Nat.zero_le _, rfl⟩ ⟨⟨rfl, rfl⟩, ⟨rfl, rfl⟩, ⟨rfl, rfl⟩, ⟨rfl, rfl⟩, ⟨rfl, rfl⟩, ⟨rfl, rfl⟩, ⟨rfl, rfl⟩, ⟨rfl, rfl⟩, ⟨rfl, rfl⟩, ⟨rfl, rfl⟩, trivial⟩ ⟨.inl rfl, trivial⟩ (fun z hJ => ?_)
              obtain ⟨j, ok⟩ := z
              obtain ⟨j1, j2⟩ := hJ
              have j1 : j ≤ I.length := j1
              have j2 : ok = (I.take j).any (fun x => decide (iB x = iB (knI D[i]))) := j2
              refine .seq ?_
              refine .seq ?_
              refine .region ?_
              refine .step rfl (.move rfl rfl) ?_
              refine .step rfl (.move rfl rfl) ?_
              refine .step rfl (.len rfl rfl ⟨_, _, rfl⟩ is26) ?_
              refine .step rfl (.bin rfl rfl rfl rfl) ?_
              refine .nil ?_
              refine .next ?_
              refine .cond rfl (fun h15 => ?_) (fun h15 => ?_)
              · skip
                have hj : j < I.length := by have q := of_decide_eq_true h15; (try dsimp only at q); omega
                refine .skip ?_
                refine .next ?_
                refine .seq ?_
                refine .block ?_
                cases ok with
                | true =>
                  refine .draw mixed [Ro.mk _ (Eff.mk (some (83, _)) []) [], Ro.mk _ (Eff.mk (some (84, _)) []) [], Ro.mk _ (Eff.mk (some (85, _)) []) [], Ro.mk _ (Eff.mk (some (86, _)) []) [], Ro.mk _ (Eff.mk (some (87, _)) []) [], Ro.mk _ (Eff.mk (some (88, _)) []) [], Ro.mk _ (Eff.mk (some (89, _)) []) [], Ro.mk _ (Eff.mk (some (90, _)) []) [], Ro.mk _ (Eff.mk (some (91, _)) []) [], Ro.mk _ (Eff.mk (some (92, _)) []) [], Ro.mk _ (Eff.mk (some (12, _)) []) []] rfl ⟨(fun _ _ => .move rfl rfl), (fun _ _ => .move rfl rfl), (.inr ⟨84, _, rfl, rfl, rfl, rfl, 85, rfl, rfl, rfl⟩), (.inr ⟨84, _, rfl, rfl, rfl, rfl, 86, rfl, rfl, rfl⟩), (.inr ⟨84, _, rfl, rfl, rfl, rfl, 87, rfl, rfl, rfl⟩), (.inr ⟨84, _, rfl, rfl, rfl, rfl, 88, rfl, rfl, rfl⟩), (.inr ⟨84, _, rfl, rfl, rfl, rfl, 89, rfl, rfl, rfl⟩), (.inr ⟨84, _, rfl, rfl, rfl, rfl, 90, rfl, rfl, rfl⟩), (.inr ⟨84, _, rfl, rfl, rfl, rfl, 91, rfl, rfl, rfl⟩), (fun _ _ => .pick rfl rfl rfl), (fun _ _ => .assign rfl rfl), trivial⟩ (by kernel_rfl) ?_
                  refine TE.blk ?_
                  refine .next ?_
                  refine .region ?_
                  refine .step rfl (.move rfl rfl) ?_
                  refine .step rfl (.binv (.int .i64 ((j + 1 : Nat) : Int)) rfl rfl rfl rfl (congrArg _ (by (try dsimp only); rw [IntKind.wrap_i64]; omega))) ?_
                  refine .step rfl (.assign rfl rfl) ?_
                  refine .nil ?_
                  refine TE.setv 12 (.bool ((I.take (j + 1)).any (fun x => decide (iB x = iB (knI D[i]))))) rfl (congrArg Value.bool (by rw [anyI_snoc hj, ← j2]; first | rfl | simp)) ?_
                  refine TE.setv 13 (.int .i64 ((j + 1 : Nat) : Int)) rfl (congrArg _ (by first | rfl | (dsimp only; first | done | rfl | omega))) ?_
                  exact TE.round id (fun _ _ e => e) ((j + 1, (I.take (j + 1)).any (fun x => decide (iB x = iB (knI D[i]))))) ⟨hj, rfl⟩ (by show I.length - (j + 1) < I.length - j; omega) ⟨⟨rfl, rfl⟩, ⟨rfl, rfl⟩, ⟨rfl, rfl⟩, ⟨rfl, rfl⟩, ⟨rfl, rfl⟩, ⟨rfl, rfl⟩, ⟨rfl, rfl⟩, ⟨rfl, rfl⟩, ⟨rfl, rfl⟩, ⟨rfl, rfl⟩, trivial⟩ ⟨.inl rfl, trivial⟩
                | false =>
                  refine .draw mixed [Ro.mk _ (Eff.mk (some (83, _)) []) [], Ro.mk _ (Eff.mk (some (84, _)) []) [], Ro.mk _ (Eff.mk (some (85, _)) []) [], Ro.mk _ (Eff.mk (some (86, _)) []) [], Ro.mk _ (Eff.mk (some (87, _)) []) [], Ro.mk _ (Eff.mk (some (88, _)) []) [], Ro.mk _ (Eff.mk (some (89, _)) []) [], Ro.mk _ (Eff.mk (some (90, _)) []) [], Ro.mk _ (Eff.mk (some (91, _)) []) [], Ro.mk _ (Eff.mk (some (92, _)) []) [], Ro.mk _ (Eff.mk (some (12, _)) []) []] rfl ⟨(fun _ _ => .move rfl rfl), (fun _ _ => .move rfl rfl), (.inr ⟨84, _, rfl, rfl, rfl, rfl, fun _ _ => .move rfl rfl⟩), (.inr ⟨84, _, rfl, rfl, rfl, rfl, fun _ _ => .move rfl rfl⟩), (.inr ⟨84, _, rfl, rfl, rfl, rfl, fun _ _ => .idx (I[j]) rfl rfl rfl rfl et26 (fun _ => rfl) (Int.natCast_nonneg _) (get_nat hj)⟩), (.inr ⟨84, _, rfl, rfl, rfl, rfl, fun _ _ => .ldem (ds := I[j].dv) rfl rfl rfl rfl rfl tk36⟩), (.inr ⟨84, _, rfl, rfl, rfl, rfl, fun _ _ => .ldem (ds := entD D[i].nm D[i].ver D[i].key) rfl rfl rfl rfl rfl tk30⟩), (.inr ⟨84, _, rfl, rfl, rfl, rfl, fun _ _ => .callf rfl cf11 rfl ⟨trivial, trivial⟩ (ritem_pf D[i].nm D[i].ver D[i].key hin.1 hin.2.1 hin.2.2)⟩), (.inr ⟨84, _, rfl, rfl, rfl, rfl, fun _ _ => .eqi (a := I[j]) (b := knI D[i]) rfl rfl rfl qi36⟩), (fun _ _ => .pick rfl rfl rfl), (fun _ _ => .assign rfl rfl), trivial⟩ (by kernel_rfl) ?_
                  refine TE.blk ?_
                  refine .next ?_
                  refine .region ?_
                  refine .step rfl (.move rfl rfl) ?_
                  refine .step rfl (.binv (.int .i64 ((j + 1 : Nat) : Int)) rfl rfl rfl rfl (congrArg _ (by (try dsimp only); rw [IntKind.wrap_i64]; omega))) ?_
                  refine .step rfl (.assign rfl rfl) ?_
                  refine .nil ?_
                  refine TE.setv 12 (.bool ((I.take (j + 1)).any (fun x => decide (iB x = iB (knI D[i]))))) rfl (congrArg Value.bool (by rw [anyI_snoc hj, ← j2]; first | rfl | simp)) ?_
                  refine TE.setv 13 (.int .i64 ((j + 1 : Nat) : Int)) rfl (congrArg _ (by first | rfl | (dsimp only; first | done | rfl | omega))) ?_
                  exact TE.round id (fun _ _ e => e) ((j + 1, (I.take (j + 1)).any (fun x => decide (iB x = iB (knI D[i]))))) ⟨hj, rfl⟩ (by show I.length - (j + 1) < I.length - j; omega) ⟨⟨rfl, rfl⟩, ⟨rfl, rfl⟩, ⟨rfl, rfl⟩, ⟨rfl, rfl⟩, ⟨rfl, rfl⟩, ⟨rfl, rfl⟩, ⟨rfl, rfl⟩, ⟨rfl, rfl⟩, ⟨rfl, rfl⟩, ⟨rfl, rfl⟩, trivial⟩ ⟨.inl rfl, trivial⟩
              · skip
                have hj : ¬ (j < I.length) := by have q := of_decide_eq_false h15; (try dsimp only at q); omega
                have hok : ok = true := by rw [j2, List.take_of_length_le (by omega)]; exact anyI_mem hmem
                subst hok
                refine .exit ?_
                refine TE.pass ?_
                refine TE.pass ?_
                refine TE.here ?_
                refine .next ?_
                refine .seq ?_
                refine TC.setv 12 (.bool true) rfl rfl ?_
                refine .region ?_
                refine .step rfl (.move rfl rfl) ?_
                refine .step rfl (.un rfl rfl rfl) ?_
                refine .nil ?_
                refine .next ?_
                refine .cond rfl (fun h17 => absurd h17 (by decide)) (fun h17 => ?_)
                refine .skip ?_
                refine TE.blk ?_
                refine .next ?_
                refine .region ?_
                refine .step rfl (.move rfl rfl) ?_
                refine .step rfl (.binv (.int .i64 ((i + 1 : Nat) : Int)) rfl rfl rfl rfl (congrArg _ (by (try dsimp only); rw [IntKind.wrap_i64]; omega))) ?_
                refine .step rfl (.assign rfl rfl) ?_
                refine .nil ?_
                refine TE.setv 9 (.int .i64 ((i + 1 : Nat) : Int)) rfl (congrArg _ (by first | rfl | (dsimp only; first | done | rfl | omega))) ?_
                refine TE.setv 8 (.int .i64 ((c + 1 : Nat) : Int)) rfl (congrArg _ (by first | rfl | (dsimp only; first | done | rfl | omega))) ?_
                exact TE.round id (fun _ _ e => e) ((i + 1, c + 1)) ⟨by show i + 1 ≤ D.length; omega, by have q := i2; rw [hyes, List.length_cons] at q; show c + 1 + (lastL n (D.drop (i + 1))).length = (lastL n D).length; omega⟩ (by show D.length - (i + 1) < D.length - i; omega) ⟨⟨rfl, rfl⟩, ⟨rfl, rfl⟩, ⟨rfl, rfl⟩, ⟨rfl, rfl⟩, ⟨rfl, rfl⟩, ⟨rfl, rfl⟩, ⟨rfl, rfl⟩, trivial⟩ trivial
        · skip
          refine .draw mixed [Ro.mk _ (Eff.mk (some (38, _)) []) [], Ro.mk _ (Eff.mk (some (39, _)) []) [], Ro.mk _ (Eff.mk (some (40, _)) []) [], Ro.mk _ (Eff.mk (some (41, _)) []) [], Ro.mk _ (Eff.mk (some (42, _)) []) [], Ro.mk _ (Eff.mk (some (43, _)) []) [], Ro.mk _ (Eff.mk (some (44, _)) []) [], Ro.mk _ (Eff.mk (some (45, _)) []) [], Ro.mk _ (Eff.mk (some (46, _)) []) [], Ro.mk _ (Eff.mk (some (47, _)) []) [], Ro.mk _ (Eff.mk (some (48, _)) []) [], Ro.mk _ (Eff.mk (some (49, _)) []) [], Ro.mk _ (Eff.mk (some (50, _)) []) [], Ro.mk _ (Eff.mk (some (51, _)) []) [], Ro.mk _ (Eff.mk (some (52, _)) []) [], Ro.mk _ (Eff.mk (some (53, _)) []) [], Ro.mk _ (Eff.mk (some (54, _)) []) [], Ro.mk _ (Eff.mk (some (55, _)) []) [], Ro.mk _ (Eff.mk (some (56, _)) []) [], Ro.mk _ (Eff.mk (some (57, _)) []) [], Ro.mk _ (Eff.mk (some (58, _)) []) [], Ro.mk _ (Eff.mk (some (59, _)) []) [], Ro.mk _ (Eff.mk (some (60, _)) []) [], Ro.mk _ (Eff.mk (some (61, _)) []) [], Ro.mk _ (Eff.mk (some (62, _)) []) [], Ro.mk _ (Eff.mk (some (63, _)) []) [], Ro.mk _ (Eff.mk (some (64, _)) []) [], Ro.mk _ (Eff.mk (some (11, _)) []) []] rfl ⟨(fun _ _ => .move rfl rfl), (fun _ _ => .binv (.int .i64 ((i + 1 : Nat) : Int)) rfl rfl rfl rfl (congrArg _ (by (try dsimp only); rw [IntKind.wrap_i64]; omega))), (fun _ _ => .move rfl rfl), (fun _ _ => .len rfl rfl ⟨_, _, rfl⟩ is24), (fun _ _ => .binv (.bool true) rfl rfl rfl rfl (congrArg Value.bool (decide_eq_true (by omega)))), (fun _ _ => .move rfl rfl), (.inr ⟨43, _, rfl, rfl, rfl, rfl, fun _ _ => .move rfl rfl⟩), (.inr ⟨43, _, rfl, rfl, rfl, rfl, fun _ _ => .move rfl rfl⟩), (.inr ⟨43, _, rfl, rfl, rfl, rfl, fun _ _ => .binv (.int .i64 ((i + 1 : Nat) : Int)) rfl rfl rfl rfl (congrArg _ (by (try dsimp only); rw [IntKind.wrap_i64]; omega))⟩), (.inr ⟨43, _, rfl, rfl, rfl, rfl, fun _ _ => .idx (D[i + 1]) rfl rfl rfl rfl et24 (fun _ => rfl) (Int.natCast_nonneg _) (get_nat hi1)⟩), (.inr ⟨43, _, rfl, rfl, rfl, rfl, fun _ _ => .fielde rfl rfl rfl fo32_0⟩), (.inr ⟨43, _, rfl, rfl, rfl, rfl, fun _ _ => .fielde rfl rfl rfl fo30_0⟩), (.inr ⟨43, _, rfl, rfl, rfl, rfl, fun _ _ => .lde rfl rfl rfl rfl tk9⟩), (.inr ⟨43, _, rfl, rfl, rfl, rfl, fun _ _ => .fielde rfl rfl rfl fo30_0⟩), (.inr ⟨43, _, rfl, rfl, rfl, rfl, fun _ _ => .lde rfl rfl rfl rfl tk9⟩), (.inr ⟨43, _, rfl, rfl, rfl, rfl, fun _ _ => .binv (.bool false) rfl rfl rfl rfl (congrArg Value.bool (decide_eq_false hnm))⟩), (fun _ _ => .pick rfl rfl rfl), (fun _ _ => .move rfl rfl), (.inr ⟨55, _, rfl, rfl, rfl, rfl, 56, rfl, rfl, rfl⟩), (.inr ⟨55, _, rfl, rfl, rfl, rfl, 57, rfl, rfl, rfl⟩), (.inr ⟨55, _, rfl, rfl, rfl, rfl, 58, rfl, rfl, rfl⟩), (.inr ⟨55, _, rfl, rfl, rfl, rfl, 59, rfl, rfl, rfl⟩), (.inr ⟨55, _, rfl, rfl, rfl, rfl, 60, rfl, rfl, rfl⟩), (.inr ⟨55, _, rfl, rfl, rfl, rfl, 61, rfl, rfl, rfl⟩), (.inr ⟨55, _, rfl, rfl, rfl, rfl, 62, rfl, rfl, rfl⟩), (.inr ⟨55, _, rfl, rfl, rfl, rfl, 63, rfl, rfl, rfl⟩), (fun _ _ => .pick rfl rfl rfl), (fun _ _ => .assign rfl rfl), trivial⟩ (by kernel_rfl) ?_
          refine .next ?_
          refine .seq ?_
          refine .seq ?_
          by_cases hep : n < D[i].ep
          · skip
            refine .region ?_
            refine .step rfl (.move rfl rfl) ?_
            refine .step rfl (.move rfl rfl) ?_
            refine .step rfl (.idx (D[i]) rfl rfl rfl rfl et24 (fun _ => rfl) (Int.natCast_nonneg _) (get_nat hi)) ?_
            refine .step rfl (.fielde rfl rfl rfl fo32_1) ?_
            refine .step rfl (.lde rfl rfl rfl rfl tk3) ?_
            refine .step rfl (.move rfl rfl) ?_
            refine .step rfl (.binv (.bool true) rfl rfl rfl rfl (congrArg Value.bool (decide_eq_true (by omega)))) ?_
            refine .step rfl (.move rfl rfl) ?_
            refine .no 72 rfl rfl rfl rfl rfl rfl rfl ?_
            refine .step rfl (.pick rfl rfl rfl) ?_
            refine .nil ?_
            refine .next ?_
            refine .cond rfl (fun h19 => ?_) (fun h19 => absurd h19 (by decide))
            refine .exit ?_
            refine TE.pass ?_
            refine TE.here ?_
            refine .next ?_
            refine .region ?_
            refine .step rfl (.move rfl rfl) ?_
            refine .step rfl (.binv (.int .i64 ((i + 1 : Nat) : Int)) rfl rfl rfl rfl (congrArg _ (by (try dsimp only); rw [IntKind.wrap_i64]; omega))) ?_
            refine .step rfl (.assign rfl rfl) ?_
            refine .nil ?_
            refine TE.setv 9 (.int .i64 ((i + 1 : Nat) : Int)) rfl (congrArg _ (by first | rfl | (dsimp only; first | done | rfl | omega))) ?_
            exact TE.round id (fun _ _ e => e) ((i + 1, c)) ⟨by show i + 1 ≤ D.length; omega, by first | (rw [← lastL_off (n := n) hi (by omega)]; exact i2) | (rw [← lastL_later (n := n) hi hi1 hnm hep1]; exact i2)⟩ (by show D.length - (i + 1) < D.length - i; omega) ⟨⟨rfl, rfl⟩, ⟨rfl, rfl⟩, ⟨rfl, rfl⟩, ⟨rfl, rfl⟩, ⟨rfl, rfl⟩, ⟨rfl, rfl⟩, ⟨rfl, rfl⟩, trivial⟩ trivial
          · skip
            refine .region ?_
            refine .step rfl (.move rfl rfl) ?_
            refine .step rfl (.move rfl rfl) ?_
            refine .step rfl (.idx (D[i]) rfl rfl rfl rfl et24 (fun _ => rfl) (Int.natCast_nonneg _) (get_nat hi)) ?_
            refine .step rfl (.fielde rfl rfl rfl fo32_1) ?_
            refine .step rfl (.lde rfl rfl rfl rfl tk3) ?_
            refine .step rfl (.move rfl rfl) ?_
            refine .step rfl (.binv (.bool false) rfl rfl rfl rfl (congrArg Value.bool (decide_eq_false (by omega)))) ?_
            refine .step rfl (.move rfl rfl) ?_
            refine .go 72 rfl rfl rfl rfl (.move rfl rfl) ?_
            refine .step rfl (.pick rfl rfl rfl) ?_
            refine .nil ?_
            refine .next ?_
            refine .cond rfl (fun h20 => absurd h20 (by decide)) (fun h20 => ?_)
            refine .skip ?_
            refine .next ?_
            refine .seq ?_
            have hyes : lastL n (D.drop i) = D[i] :: lastL n (D.drop (i + 1)) := lastL_yes hi (by omega) (fun q r => by first | exact hi1 q | exact hnm r.1 | exact hep1 r.2)
            have hmem : knI D[i] ∈ I := hper.mem_iff.2 (List.mem_map.2 ⟨D[i], lastL_mem (i := i) (by rw [hyes]; simp), rfl⟩)
            refine .region ?_
            refine .step rfl (.move rfl rfl) ?_
            refine .step rfl (.binv (.int .i64 ((c + 1 : Nat) : Int)) rfl rfl rfl rfl (congrArg _ (by (try dsimp only); rw [IntKind.wrap_i64]; omega))) ?_
            refine .step rfl (.assign rfl rfl) ?_
            refine .nil ?_
            refine TE.setv 8 (.int .i64 ((c + 1 : Nat) : Int)) rfl (congrArg _ (by first | rfl | (dsimp only; first | done | rfl | omega))) ?_
            refine .next ?_
            refine .seq ?_
            refine .region ?_
            refine .step rfl (.assign rfl rfl) ?_
            refine .nil ?_
            refine .next ?_
            refine .seq ?_
            refine .seq ?_
            refine .region ?_
            refine .step rfl (.assign rfl rfl) ?_
            refine .nil ?_
            refine TE.setv 13 (.int .i64 ((0 : Nat) : Int)) rfl (congrArg _ (by first | rfl | (dsimp only; first | done | rfl | omega))) ?_
            refine TE.setv 12 (.bool false) rfl rfl ?_
            refine .next ?_
            refine .block ?_
            refine TC.loop (S := Nat × Bool) (fun z => z.1 ≤ I.length ∧ z.2 = (I.take z.1).any (fun x => decide (iB x = iB (knI D[i])))) (fun z => I.length - z.1) (fun z => [(0, .d (slT bdv 1 l)), (1, .d (.v (.int .u8 ((b.toNat : Nat) : Int)))), (5, .d (slT Kn.dv 4 D)), (6, .d (.v (.int .i64 n))), (7, .d (slT It.dv 64 I)), (8, .d (.v (.int .i64 ((c + 1 : Nat) : Int)))), (9, .d (.v (.int .i64 ((i : Nat) : Int)))), (10, .d (.el (En.dv ⟨D[i].nm, D[i].ver, D[i].key⟩))), (12, .d (.v (.bool z.2))), (13, .d (.v (.int .i64 ((z.1 : Nat) : Int))))]) (fun z => [(1, .dead)]) ((0, false)) ⟨Nat.zero_le _, rfl⟩ ⟨⟨rfl, rfl⟩, ⟨rfl, rfl⟩, ⟨rfl, rfl⟩, ⟨rfl, rfl⟩, ⟨rfl, rfl⟩, ⟨rfl, rfl⟩, ⟨rfl, rfl⟩, ⟨rfl, rfl⟩, ⟨rfl, rfl⟩, ⟨rfl, rfl⟩, trivial⟩ ⟨.inl rfl, trivial⟩ (fun z hJ => ?_)
            obtain ⟨j, ok⟩ := z
            obtain ⟨j1, j2⟩ := hJ
            have j1 : j ≤ I.length := j1
            have j2 : ok = (I.take j).any (fun x => decide (iB x = iB (knI D[i]))) := j2
            refine .seq ?_
            refine .seq ?_
            refine .region ?_
            refine .step rfl (.move rfl rfl) ?_
            refine .step rfl (.move rfl rfl) ?_
            refine .step rfl (.len rfl rfl ⟨_, _, rfl⟩ is26) ?_
            refine .step rfl (.bin rfl rfl rfl rfl) ?_
            refine .nil ?_
            refine .next ?_
            refine .cond rfl (fun h21 => ?_) (fun h21 => ?_)
            · skip
              have hj : j < I.length := by have q := of_decide_eq_true h21; (try dsimp only at q); omega
              refine .skip ?_
              refine .next ?_
              refine .seq ?_
              refine .block ?_
              cases ok with
              | true =>
                refine .draw mixed [Ro.mk _ (Eff.mk (some (83, _)) []) [], Ro.mk _ (Eff.mk (some (84, _)) []) [], Ro.mk _ (Eff.mk (some (85, _)) []) [], Ro.mk _ (Eff.mk (some (86, _)) []) [], Ro.mk _ (Eff.mk (some (87, _)) []) [], Ro.mk _ (Eff.mk (some (88, _)) []) [], Ro.mk _ (Eff.mk (some (89, _)) []) [], Ro.mk _ (Eff.mk (some (90, _)) []) [], Ro.mk _ (Eff.mk (some (91, _)) []) [], Ro.mk _ (Eff.mk (some (92, _)) []) [], Ro.mk _ (Eff.mk (some (12, _)) []) []] rfl ⟨(fun _ _ => .move rfl rfl), (fun _ _ => .move rfl rfl), (.inr ⟨84, _, rfl, rfl, rfl, rfl, 85, rfl, rfl, rfl⟩), (.inr ⟨84, _, rfl, rfl, rfl, rfl, 86, rfl, rfl, rfl⟩), (.inr ⟨84, _, rfl, rfl, rfl, rfl, 87, rfl, rfl, rfl⟩), (.inr ⟨84, _, rfl, rfl, rfl, rfl, 88, rfl, rfl, rfl⟩), (.inr ⟨84, _, rfl, rfl, rfl, rfl, 89, rfl, rfl, rfl⟩), (.inr ⟨84, _, rfl, rfl, rfl, rfl, 90, rfl, rfl, rfl⟩), (.inr ⟨84, _, rfl, rfl, rfl, rfl, 91, rfl, rfl, rfl⟩), (fun _ _ => .pick rfl rfl rfl), (fun _ _ => .assign rfl rfl), trivial⟩ (by kernel_rfl) ?_
                refine TE.blk ?_
                refine .next ?_
                refine .region ?_
                refine .step rfl (.move rfl rfl) ?_
                refine .step rfl (.binv (.int .i64 ((j + 1 : Nat) : Int)) rfl rfl rfl rfl (congrArg _ (by (try dsimp only); rw [IntKind.wrap_i64]; omega))) ?_
                refine .step rfl (.assign rfl rfl) ?_
                refine .nil ?_
                refine TE.setv 12 (.bool ((I.take (j + 1)).any (fun x => decide (iB x = iB (knI D[i]))))) rfl (congrArg Value.bool (by rw [anyI_snoc hj, ← j2]; first | rfl | simp)) ?_
                refine TE.setv 13 (.int .i64 ((j + 1 : Nat) : Int)) rfl (congrArg _ (by first | rfl | (dsimp only; first | done | rfl | omega))) ?_
                exact TE.round id (fun _ _ e => e) ((j + 1, (I.take (j + 1)).any (fun x => decide (iB x = iB (knI D[i]))))) ⟨hj, rfl⟩ (by show I.length - (j + 1) < I.length - j; omega) ⟨⟨rfl, rfl⟩, ⟨rfl, rfl⟩, ⟨rfl, rfl⟩, ⟨rfl, rfl⟩, ⟨rfl, rfl⟩, ⟨rfl, rfl⟩, ⟨rfl, rfl⟩, ⟨rfl, rfl⟩, ⟨rfl, rfl⟩, ⟨rfl, rfl⟩, trivial⟩ ⟨.inl rfl, trivial⟩
              | false =>
                refine .draw mixed [Ro.mk _ (Eff.mk (some (83, _)) []) [], Ro.mk _ (Eff.mk (some (84, _)) []) [], Ro.mk _ (Eff.mk (some (85, _)) []) [], Ro.mk _ (Eff.mk (some (86, _)) []) [], Ro.mk _ (Eff.mk (some (87, _)) []) [], Ro.mk _ (Eff.mk (some (88, _)) []) [], Ro.mk _ (Eff.mk (some (89, _)) []) [], Ro.mk _ (Eff.mk (some (90, _)) []) [], Ro.mk _ (Eff.mk (some (91, _)) []) [], Ro.mk _ (Eff.mk (some (92, _)) []) [], Ro.mk _ (Eff.mk (some (12, _)) []) []] rfl ⟨(fun _ _ => .move rfl rfl), (fun _ _ => .move rfl rfl), (.inr ⟨84, _, rfl, rfl, rfl, rfl, fun _ _ => .move rfl rfl⟩), (.inr ⟨84, _, rfl, rfl, rfl, rfl, fun _ _ => .move rfl rfl⟩), (.inr ⟨84, _, rfl, rfl, rfl, rfl, fun _ _ => .idx (I[j]) rfl rfl rfl rfl et26 (fun _ => rfl) (Int.natCast_nonneg _) (get_nat hj)⟩), (.inr ⟨84, _, rfl, rfl, rfl, rfl, fun _ _ => .ldem (ds := I[j].dv) rfl rfl rfl rfl rfl tk36⟩), (.inr ⟨84, _, rfl, rfl, rfl, rfl, fun _ _ => .ldem (ds := entD D[i].nm D[i].ver D[i].key) rfl rfl rfl rfl rfl tk30⟩), (.inr ⟨84, _, rfl, rfl, rfl, rfl, fun _ _ => .callf rfl cf11 rfl ⟨trivial, trivial⟩ (ritem_pf D[i].nm D[i].ver D[i].key hin.1 hin.2.1 hin.2.2)⟩), (.inr ⟨84, _, rfl, rfl, rfl, rfl, fun _ _ => .eqi (a := I[j]) (b := knI D[i]) rfl rfl rfl qi36⟩), (fun _ _ => .pick rfl rfl rfl), (fun _ _ => .assign rfl rfl), trivial⟩ (by kernel_rfl) ?_
                refine TE.blk ?_
                refine .next ?_
                refine .region ?_
                refine .step rfl (.move rfl rfl) ?_
                refine .step rfl (.binv (.int .i64 ((j + 1 : Nat) : Int)) rfl rfl rfl rfl (congrArg _ (by (try dsimp only); rw [IntKind.wrap_i64]; omega))) ?_
                refine .step rfl (.assign rfl rfl) ?_
                refine .nil ?_
                refine TE.setv 12 (.bool ((I.take (j + 1)).any (fun x => decide (iB x = iB (knI D[i]))))) rfl (congrArg Value.bool (by rw [anyI_snoc hj, ← j2]; first | rfl | simp)) ?_
                refine TE.setv 13 (.int .i64 ((j + 1 : Nat) : Int)) rfl (congrArg _ (by first | rfl | (dsimp only; first | done | rfl | omega))) ?_
                exact TE.round id (fun _ _ e => e) ((j + 1, (I.take (j + 1)).any (fun x => decide (iB x = iB (knI D[i]))))) ⟨hj, rfl⟩ (by show I.length - (j + 1) < I.length - j; omega) ⟨⟨rfl, rfl⟩, ⟨rfl, rfl⟩, ⟨rfl, rfl⟩, ⟨rfl, rfl⟩, ⟨rfl, rfl⟩, ⟨rfl, rfl⟩, ⟨rfl, rfl⟩, ⟨rfl, rfl⟩, ⟨rfl, rfl⟩, ⟨rfl, rfl⟩, trivial⟩ ⟨.inl rfl, trivial⟩
            · skip
              have hj : ¬ (j < I.length) := by have q := of_decide_eq_false h21; (try dsimp only at q); omega
              have hok : ok = true := by rw [j2, List.take_of_length_le (by omega)]; exact anyI_mem hmem
              subst hok
              refine .exit ?_
              refine TE.pass ?_
              refine TE.pass ?_
              refine TE.here ?_
              refine .next ?_
              refine .seq ?_
              refine TC.setv 12 (.bool true) rfl rfl ?_
              refine .region ?_
              refine .step rfl (.move rfl rfl) ?_
              refine .step rfl (.un rfl rfl rfl) ?_
              refine .nil ?_
              refine .next ?_
              refine .cond rfl (fun h23 => absurd h23 (by decide)) (fun h23 => ?_)
              refine .skip ?_
              refine TE.blk ?_
              refine .next ?_
              refine .region ?_
              refine .step rfl (.move rfl rfl) ?_
              refine .step rfl (.binv (.int .i64 ((i + 1 : Nat) : Int)) rfl rfl rfl rfl (congrArg _ (by (try dsimp only); rw [IntKind.wrap_i64]; omega))) ?_
              refine .step rfl (.assign rfl rfl) ?_
              refine .nil ?_
              refine TE.setv 9 (.int .i64 ((i + 1 : Nat) : Int)) rfl (congrArg _ (by first | rfl | (dsimp only; first | done | rfl | omega))) ?_
              refine TE.setv 8 (.int .i64 ((c + 1 : Nat) : Int)) rfl (congrArg _ (by first | rfl | (dsimp only; first | done | rfl | omega))) ?_
              exact TE.round id (fun _ _ e => e) ((i + 1, c + 1)) ⟨by show i + 1 ≤ D.length; omega, by have q := i2; rw [hyes, List.length_cons] at q; show c + 1 + (lastL n (D.drop (i + 1))).length = (lastL n D).length; omega⟩ (by show D.length - (i + 1) < D.length - i; omega) ⟨⟨rfl, rfl⟩, ⟨rfl, rfl⟩, ⟨rfl, rfl⟩, ⟨rfl, rfl⟩, ⟨rfl, rfl⟩, ⟨rfl, rfl⟩, ⟨rfl, rfl⟩, trivial⟩ trivial
      · skip
        refine .draw mixed [Ro.mk _ (Eff.mk (some (38, _)) []) [], Ro.mk _ (Eff.mk (some (39, _)) []) [], Ro.mk _ (Eff.mk (some (40, _)) []) [], Ro.mk _ (Eff.mk (some (41, _)) []) [], Ro.mk _ (Eff.mk (some (42, _)) []) [], Ro.mk _ (Eff.mk (some (43, _)) []) [], Ro.mk _ (Eff.mk (some (44, _)) []) [], Ro.mk _ (Eff.mk (some (45, _)) []) [], Ro.mk _ (Eff.mk (some (46, _)) []) [], Ro.mk _ (Eff.mk (some (47, _)) []) [], Ro.mk _ (Eff.mk (some (48, _)) []) [], Ro.mk _ (Eff.mk (some (49, _)) []) [], Ro.mk _ (Eff.mk (some (50, _)) []) [], Ro.mk _ (Eff.mk (some (51, _)) []) [], Ro.mk _ (Eff.mk (some (52, _)) []) [], Ro.mk _ (Eff.mk (some (53, _)) []) [], Ro.mk _ (Eff.mk (some (54, _)) []) [], Ro.mk _ (Eff.mk (some (55, _)) []) [], Ro.mk _ (Eff.mk (some (56, _)) []) [], Ro.mk _ (Eff.mk (some (57, _)) []) [], Ro.mk _ (Eff.mk (some (58, _)) []) [], Ro.mk _ (Eff.mk (some (59, _)) []) [], Ro.mk _ (Eff.mk (some (60, _)) []) [], Ro.mk _ (Eff.mk (some (61, _)) []) [], Ro.mk _ (Eff.mk (some (62, _)) []) [], Ro.mk _ (Eff.mk (some (63, _)) []) [], Ro.mk _ (Eff.mk (some (64, _)) []) [], Ro.mk _ (Eff.mk (some (11, _)) []) []] rfl ⟨(fun _ _ => .move rfl rfl), (fun _ _ => .binv (.int .i64 ((i + 1 : Nat) : Int)) rfl rfl rfl rfl (congrArg _ (by (try dsimp only); rw [IntKind.wrap_i64]; omega))), (fun _ _ => .move rfl rfl), (fun _ _ => .len rfl rfl ⟨_, _, rfl⟩ is24), (fun _ _ => .binv (.bool false) rfl rfl rfl rfl (congrArg Value.bool (decide_eq_false (by omega)))), (fun _ _ => .move rfl rfl), (.inr ⟨43, _, rfl, rfl, rfl, rfl, 44, rfl, rfl, rfl⟩), (.inr ⟨43, _, rfl, rfl, rfl, rfl, 45, rfl, rfl, rfl⟩), (.inr ⟨43, _, rfl, rfl, rfl, rfl, 46, rfl, rfl, rfl⟩), (.inr ⟨43, _, rfl, rfl, rfl, rfl, 47, rfl, rfl, rfl⟩), (.inr ⟨43, _, rfl, rfl, rfl, rfl, 48, rfl, rfl, rfl⟩), (.inr ⟨43, _, rfl, rfl, rfl, rfl, 49, rfl, rfl, rfl⟩), (.inr ⟨43, _, rfl, rfl, rfl, rfl, 50, rfl, rfl, rfl⟩), (.inr ⟨43, _, rfl, rfl, rfl, rfl, 51, rfl, rfl, rfl⟩), (.inr ⟨43, _, rfl, rfl, rfl, rfl, 52, rfl, rfl, rfl⟩), (.inr ⟨43, _, rfl, rfl, rfl, rfl, 53, rfl, rfl, rfl⟩), (fun _ _ => .pick rfl rfl rfl), (fun _ _ => .move rfl rfl), (.inr ⟨55, _, rfl, rfl, rfl, rfl, 56, rfl, rfl, rfl⟩), (.inr ⟨55, _, rfl, rfl, rfl, rfl, 57, rfl, rfl, rfl⟩), (.inr ⟨55, _, rfl, rfl, rfl, rfl, 58, rfl, rfl, rfl⟩), (.inr ⟨55, _, rfl, rfl, rfl, rfl, 59, rfl, rfl, rfl⟩), (.inr ⟨55, _, rfl, rfl, rfl, rfl, 60, rfl, rfl, rfl⟩), (.inr ⟨55, _, rfl, rfl, rfl, rfl, 61, rfl, rfl, rfl⟩), (.inr ⟨55, _, rfl, rfl, rfl, rfl, 62, rfl, rfl, rfl⟩), (.inr ⟨55, _, rfl, rfl, rfl, rfl, 63, rfl, rfl, rfl⟩), (fun _ _ => .pick rfl rfl rfl), (fun _ _ => .assign rfl rfl), trivial⟩ (by kernel_rfl) ?_
        refine .next ?_
        refine .seq ?_
        refine .seq ?_
        by_cases hep : n < D[i].ep
        · skip
          refine .region ?_
          refine .step rfl (.move rfl rfl) ?_
          refine .step rfl (.move rfl rfl) ?_
          refine .step rfl (.idx (D[i]) rfl rfl rfl rfl et24 (fun _ => rfl) (Int.natCast_nonneg _) (get_nat hi)) ?_
          refine .step rfl (.fielde rfl rfl rfl fo32_1) ?_
          refine .step rfl (.lde rfl rfl rfl rfl tk3) ?_
          refine .step rfl (.move rfl rfl) ?_
          refine .step rfl (.binv (.bool true) rfl rfl rfl rfl (congrArg Value.bool (decide_eq_true (by omega)))) ?_
          refine .step rfl (.move rfl rfl) ?_
          refine .no 72 rfl rfl rfl rfl rfl rfl rfl ?_
          refine .step rfl (.pick rfl rfl rfl) ?_
          refine .nil ?_
          refine .next ?_
          refine .cond rfl (fun h25 => ?_) (fun h25 => absurd h25 (by decide))
          refine .exit ?_
          refine TE.pass ?_
          refine TE.here ?_
          refine .next ?_
          refine .region ?_
          refine .step rfl (.move rfl rfl) ?_
          refine .step rfl (.binv (.int .i64 ((i + 1 : Nat) : Int)) rfl rfl rfl rfl (congrArg _ (by (try dsimp only); rw [IntKind.wrap_i64]; omega))) ?_
          refine .step rfl (.assign rfl rfl) ?_
          refine .nil ?_
          refine TE.setv 9 (.int .i64 ((i + 1 : Nat) : Int)) rfl (congrArg _ (by first | rfl | (dsimp only; first | done | rfl | omega))) ?_
          exact TE.round id (fun _ _ e => e) ((i + 1, c)) ⟨by show i + 1 ≤ D.length; omega, by first | (rw [← lastL_off (n := n) hi (by omega)]; exact i2) | (rw [← lastL_later (n := n) hi hi1 hnm hep1]; exact i2)⟩ (by show D.length - (i + 1) < D.length - i; omega) ⟨⟨rfl, rfl⟩, ⟨rfl, rfl⟩, ⟨rfl, rfl⟩, ⟨rfl, rfl⟩, ⟨rfl, rfl⟩, ⟨rfl, rfl⟩, ⟨rfl, rfl⟩, trivial⟩ trivial
        · skip
          refine .region ?_
          refine .step rfl (.move rfl rfl) ?_
          refine .step rfl (.move rfl rfl) ?_
          refine .step rfl (.idx (D[i]) rfl rfl rfl rfl et24 (fun _ => rfl) (Int.natCast_nonneg _) (get_nat hi)) ?_
          refine .step rfl (.fielde rfl rfl rfl fo32_1) ?_
          refine .step rfl (.lde rfl rfl rfl rfl tk3) ?_
          refine .step rfl (.move rfl rfl) ?_
          refine .step rfl (.binv (.bool false) rfl rfl rfl rfl (congrArg Value.bool (decide_eq_false (by omega)))) ?_
          refine .step rfl (.move rfl rfl) ?_
          refine .go 72 rfl rfl rfl rfl (.move rfl rfl) ?_
          refine .step rfl (.pick rfl rfl rfl) ?_
          refine .nil ?_
          refine .next ?_
          refine .cond rfl (fun h26 => absurd h26 (by decide)) (fun h26 => ?_)
          refine .skip ?_
          refine .next ?_
          refine .seq ?_
          have hyes : lastL n (D.drop i) = D[i] :: lastL n (D.drop (i + 1)) := lastL_yes hi (by omega) (fun q r => by first | exact hi1 q | exact hnm r.1 | exact hep1 r.2)
          have hmem : knI D[i] ∈ I := hper.mem_iff.2 (List.mem_map.2 ⟨D[i], lastL_mem (i := i) (by rw [hyes]; simp), rfl⟩)
          refine .region ?_
          refine .step rfl (.move rfl rfl) ?_
          refine .step rfl (.binv (.int .i64 ((c + 1 : Nat) : Int)) rfl rfl rfl rfl (congrArg _ (by (try dsimp only); rw [IntKind.wrap_i64]; omega))) ?_
          refine .step rfl (.assign rfl rfl) ?_
          refine .nil ?_
          refine TE.setv 8 (.int .i64 ((c + 1 : Nat) : Int)) rfl (congrArg _ (by first | rfl | (dsimp only; first | done | rfl | omega))) ?_
          refine .next ?_
          refine .seq ?_
          refine .region ?_
          refine .step rfl (.assign rfl rfl) ?_
          refine .nil ?_
          refine .next ?_
          refine .seq ?_
          refine .seq ?_
          refine .region ?_
          refine .step rfl (.assign rfl rfl) ?_
          refine .nil ?_
          refine TE.setv 13 (.int .i64 ((0 : Nat) : Int)) rfl (congrArg _ (by first | rfl | (dsimp only; first | done | rfl | omega))) ?_
          refine TE.setv 12 (.bool false) rfl rfl ?_
          refine .next ?_
          refine .block ?_
          refine TC.loop (S := Nat × Bool) (fun z => z.1 ≤ I.length ∧ z.2 = (I.take z.1).any (fun x => decide (iB x = iB (knI D[i])))) (fun z => I.length - z.1) (fun z => [(0, .d (slT bdv 1 l)), (1, .d (.v (.int .u8 ((b.toNat : Nat) : Int)))), (5, .d (slT Kn.dv 4 D)), (6, .d (.v (.int .i64 n))), (7, .d (slT It.dv 64 I)), (8, .d (.v (.int .i64 ((c + 1 : Nat) : Int)))), (9, .d (.v (.int .i64 ((i : Nat) : Int)))), (10, .d (.el (En.dv ⟨D[i].nm, D[i].ver, D[i].key⟩))), (12, .d (.v (.bool z.2))), (13, .d (.v (.int .i64 ((z.1 : Nat) : Int))))]) (fun z => [(1, .dead)]) ((0, false)) ⟨Nat.zero_le _, rfl⟩ ⟨⟨rfl, rfl⟩, ⟨rfl, rfl⟩, ⟨rfl, rfl⟩, ⟨rfl, rfl⟩, ⟨rfl, rfl⟩, ⟨rfl, rfl⟩, ⟨rfl, rfl⟩, ⟨rfl, rfl⟩, ⟨rfl, rfl⟩, ⟨rfl, rfl⟩, trivial⟩ ⟨.inl rfl, trivial⟩ (fun z hJ => ?_)
          obtain ⟨j, ok⟩ := z
          obtain ⟨j1, j2⟩ := hJ
          have j1 : j ≤ I.length := j1
          have j2 : ok = (I.take j).any (fun x => decide (iB x = iB (knI D[i]))) := j2
          refine .seq ?_
          refine .seq ?_
          refine .region ?_
          refine .step rfl (.move rfl rfl) ?_
          refine .step rfl (.move rfl rfl) ?_
          refine .step rfl (.len rfl rfl ⟨_, _, rfl⟩ is26) ?_
          refine .step rfl (.bin rfl rfl rfl rfl) ?_
          refine .nil ?_
          refine .next ?_
          refine .cond rfl (fun h27 => ?_) (fun h27 => ?_)
          · skip
            have hj : j < I.length := by have q := of_decide_eq_true h27; (try dsimp only at q); omega
            refine .skip ?_
            refine .next ?_
            refine .seq ?_
            refine .block ?_
            cases ok with
            | true =>
              refine .draw mixed [Ro.mk _ (Eff.mk (some (83, _)) []) [], Ro.mk _ (Eff.mk (some (84, _)) []) [], Ro.mk _ (Eff.mk (some (85, _)) []) [], Ro.mk _ (Eff.mk (some (86, _)) []) [], Ro.mk _ (Eff.mk (some (87, _)) []) [], Ro.mk _ (Eff.mk (some (88, _)) []) [], Ro.mk _ (Eff.mk (some (89, _)) []) [], Ro.mk _ (Eff.mk (some (90, _)) []) [], Ro.mk _ (Eff.mk (some (91, _)) []) [], Ro.mk _ (Eff.mk (some (92, _)) []) [], Ro.mk _ (Eff.mk (some (12, _)) []) []] rfl ⟨(fun _ _ => .move rfl rfl), (fun _ _ => .move rfl rfl), (.inr ⟨84, _, rfl, rfl, rfl, rfl, 85, rfl, rfl, rfl⟩), (.inr ⟨84, _, rfl, rfl, rfl, rfl, 86, rfl, rfl, rfl⟩), (.inr ⟨84, _, rfl, rfl, rfl, rfl, 87, rfl, rfl, rfl⟩), (.inr ⟨84, _, rfl, rfl, rfl, rfl, 88, rfl, rfl, rfl⟩), (.inr ⟨84, _, rfl, rfl, rfl, rfl, 89, rfl, rfl, rfl⟩), (.inr ⟨84, _, rfl, rfl, rfl, rfl, 90, rfl, rfl, rfl⟩), (.inr ⟨84, _, rfl, rfl, rfl, rfl, 91, rfl, rfl, rfl⟩), (fun _ _ => .pick rfl rfl rfl), (fun _ _ => .assign rfl rfl), trivial⟩ (by kernel_rfl) ?_
              refine TE.blk ?_
              refine .next ?_
              refine .region ?_
              refine .step rfl (.move rfl rfl) ?_
              refine .step rfl (.binv (.int .i64 ((j + 1 : Nat) : Int)) rfl rfl rfl rfl (congrArg _ (by (try dsimp only); rw [IntKind.wrap_i64]; omega))) ?_
              refine .step rfl (.assign rfl rfl) ?_
              refine .nil ?_
              refine TE.setv 12 (.bool ((I.take (j + 1)).any (fun x => decide (iB x = iB (knI D[i]))))) rfl (congrArg Value.bool (by rw [anyI_snoc hj, ← j2]; first | rfl | simp)) ?_
              refine TE.setv 13 (.int .i64 ((j + 1 : Nat) : Int)) rfl (congrArg _ (by first | rfl | (dsimp only; first | done | rfl | omega))) ?_
              exact TE.round id (fun _ _ e => e) ((j + 1, (I.take (j + 1)).any (fun x => decide (iB x = iB (knI D[i]))))) ⟨hj, rfl⟩ (by show I.length - (j + 1) < I.length - j; omega) ⟨⟨rfl, rfl⟩, ⟨rfl, rfl⟩, ⟨rfl, rfl⟩, ⟨rfl, rfl⟩, ⟨rfl, rfl⟩, ⟨rfl, rfl⟩, ⟨rfl, rfl⟩, ⟨rfl, rfl⟩, ⟨rfl, rfl⟩, ⟨rfl, rfl⟩, trivial⟩ ⟨.inl rfl, trivial⟩
            | false =>
              refine .draw mixed [Ro.mk _ (Eff.mk (some (83, _)) []) [], Ro.mk _ (Eff.mk (some (84, _)) []) [], Ro.mk _ (Eff.mk (some (85, _)) []) [], Ro.mk _ (Eff.mk (some (86, _)) []) [], Ro.mk _ (Eff.mk (some (87, _)) []) [], Ro.mk _ (Eff.mk (some (88, _)) []) [], Ro.mk _ (Eff.mk (some (89, _)) []) [], Ro.mk _ (Eff.mk (some (90, _)) []) [], Ro.mk _ (Eff.mk (some (91, _)) []) [], Ro.mk _ (Eff.mk (some (92, _)) []) [], Ro.mk _ (Eff.mk (some (12, _)) []) []] rfl ⟨(fun _ _ => .move rfl rfl), (fun _ _ => .move rfl rfl), (.inr ⟨84, _, rfl, rfl, rfl, rfl, fun _ _ => .move rfl rfl⟩), (.inr ⟨84, _, rfl, rfl, rfl, rfl, fun _ _ => .move rfl rfl⟩), (.inr ⟨84, _, rfl, rfl, rfl, rfl, fun _ _ => .idx (I[j]) rfl rfl rfl rfl et26 (fun _ => rfl) (Int.natCast_nonneg _) (get_nat hj)⟩), (.inr ⟨84, _, rfl, rfl, rfl, rfl, fun _ _ => .ldem (ds := I[j].dv) rfl rfl rfl rfl rfl tk36⟩), (.inr ⟨84, _, rfl, rfl, rfl, rfl, fun _ _ => .ldem (ds := entD D[i].nm D[i].ver D[i].key) rfl rfl rfl rfl rfl tk30⟩), (.inr ⟨84, _, rfl, rfl, rfl, rfl, fun _ _ => .callf rfl cf11 rfl ⟨trivial, trivial⟩ (ritem_pf D[i].nm D[i].ver D[i].key hin.1 hin.2.1 hin.2.2)⟩), (.inr ⟨84, _, rfl, rfl, rfl, rfl, fun _ _ => .eqi (a := I[j]) (b := knI D[i]) rfl rfl rfl qi36⟩), (fun _ _ => .pick rfl rfl rfl), (fun _ _ => .assign rfl rfl), trivial⟩ (by kernel_rfl) ?_
              refine TE.blk ?_
              refine .next ?_
              refine .region ?_
              refine .step rfl (.move rfl rfl) ?_
              refine .step rfl (.binv (.int .i64 ((j + 1 : Nat) : Int)) rfl rfl rfl rfl (congrArg _ (by (try dsimp only); rw [IntKind.wrap_i64]; omega))) ?_
              refine .step rfl (.assign rfl rfl) ?_
              refine .nil ?_
              refine TE.setv 12 (.bool ((I.take (j + 1)).any (fun x => decide (iB x = iB (knI D[i]))))) rfl (congrArg Value.bool (by rw [anyI_snoc hj, ← j2]; first | rfl | simp)) ?_
              refine TE.setv 13 (.int .i64 ((j + 1 : Nat) : Int)) rfl (congrArg _ (by first | rfl | (dsimp only; first | done | rfl | omega))) ?_
              exact TE.round id (fun _ _ e => e) ((j + 1, (I.take (j + 1)).any (fun x => decide (iB x = iB (knI D[i]))))) ⟨hj, rfl⟩ (by show I.length - (j + 1) < I.length - j; omega) ⟨⟨rfl, rfl⟩, ⟨rfl, rfl⟩, ⟨rfl, rfl⟩, ⟨rfl, rfl⟩, ⟨rfl, rfl⟩, ⟨rfl, rfl⟩, ⟨rfl, rfl⟩, ⟨rfl, rfl⟩, ⟨rfl, rfl⟩, ⟨rfl, rfl⟩, trivial⟩ ⟨.inl rfl, trivial⟩
          · skip
            have hj : ¬ (j < I.length) := by have q := of_decide_eq_false h27; (try dsimp only at q); omega
            have hok : ok = true := by rw [j2, List.take_of_length_le (by omega)]; exact anyI_mem hmem
            subst hok
            refine .exit ?_
            refine TE.pass ?_
            refine TE.pass ?_
            refine TE.here ?_
            refine .next ?_
            refine .seq ?_
            refine TC.setv 12 (.bool true) rfl rfl ?_
            refine .region ?_
            refine .step rfl (.move rfl rfl) ?_
            refine .step rfl (.un rfl rfl rfl) ?_
            refine .nil ?_
            refine .next ?_
            refine .cond rfl (fun h29 => absurd h29 (by decide)) (fun h29 => ?_)
            refine .skip ?_
            refine TE.blk ?_
            refine .next ?_
            refine .region ?_
            refine .step rfl (.move rfl rfl) ?_
            refine .step rfl (.binv (.int .i64 ((i + 1 : Nat) : Int)) rfl rfl rfl rfl (congrArg _ (by (try dsimp only); rw [IntKind.wrap_i64]; omega))) ?_
            refine .step rfl (.assign rfl rfl) ?_
            refine .nil ?_
            refine TE.setv 9 (.int .i64 ((i + 1 : Nat) : Int)) rfl (congrArg _ (by first | rfl | (dsimp only; first | done | rfl | omega))) ?_
            refine TE.setv 8 (.int .i64 ((c + 1 : Nat) : Int)) rfl (congrArg _ (by first | rfl | (dsimp only; first | done | rfl | omega))) ?_
            exact TE.round id (fun _ _ e => e) ((i + 1, c + 1)) ⟨by show i + 1 ≤ D.length; omega, by have q := i2; rw [hyes, List.length_cons] at q; show c + 1 + (lastL n (D.drop (i + 1))).length = (lastL n D).length; omega⟩ (by show D.length - (i + 1) < D.length - i; omega) ⟨⟨rfl, rfl⟩, ⟨rfl, rfl⟩, ⟨rfl, rfl⟩, ⟨rfl, rfl⟩, ⟨rfl, rfl⟩, ⟨rfl, rfl⟩, ⟨rfl, rfl⟩, trivial⟩ trivial
    · skip
      have hi : ¬ (i < D.length) := by have q := of_decide_eq_false h5; (try dsimp only at q); omega
      have hfin : c = I.length := by rw [List.drop_eq_nil_of_le (by omega)] at i2; rw [hIn]; simpa [lastL] using i2
      refine .exit ?_
      refine TE.pass ?_
      refine TE.pass ?_
      refine TE.here ?_
      refine .next ?_
      refine .seq ?_
      refine .region ?_
      refine .step rfl (.move rfl rfl) ?_
      refine .step rfl (.move rfl rfl) ?_
      refine .step rfl (.len rfl rfl ⟨_, _, rfl⟩ is26) ?_
      refine .step rfl (.binv (.bool true) rfl rfl rfl rfl (congrArg Value.bool (decide_eq_true (by rw [hfin])))) ?_
      refine .step rfl (.assign rfl rfl) ?_
      refine .nil ?_
      refine .next ?_
      refine .ret ?_
      exact TE.retf rfl rfl rfl trivial

end Go.Proofs.Ythidepbffhhkmaa
