/-
  The reference's Right.
-/
import Derived.Test.YthidepbffhhkmaaIl
namespace Go.Proofs.Ythidepbffhhkmaa
set_option linter.unusedVariables false
set_option linter.unusedSimpArgs false
open Go.RowKit Pl


theorem stepB_less {q k : Kn} (hb : Op.bytesLess k.nm q.nm = true) : stepB (some q) k = false := by
  have hn : ¬ q.nm = k.nm := fun e => by rw [e] at hb; have := bl_asym hb; rw [hb] at this; cases this
  unfold stepB; simp only [if_neg hn]; rw [hb]; simp

set_option maxRecDepth 100000 in
set_option maxHeartbeats 1600000 in
theorem rright_pf (l : List Kn) (hl : l.length ≤ 1048577) : PF Try.prog 19 [slT Kn.dv 4 l] (.v (.bool (rightK l))) := by
  refine PF.enter (fn := Try.f19) Try.func19 rfl Try.ntmps19 rfl (fun w0 => ?_)
  refine .seq ?_
  refine .region ?_
  refine .step rfl (.assign rfl rfl) ?_
  refine .nil ?_
  refine .next ?_
  refine .seq ?_
  refine .seq ?_
  refine .region ?_
  refine .step rfl (.assign rfl rfl) ?_
  refine .nil ?_
  refine TE.setv 3 (.int .i64 ((0 : Nat) : Int)) rfl (congrArg _ (by first | rfl | (dsimp only; first | done | rfl | omega))) ?_
  refine .next ?_
  refine .block ?_
  refine TC.loop (S := Nat) (fun i => i ≤ l.length ∧ ∀ j, j < i → stepAt l j = true) (fun i => l.length - i) (fun i => [(0, .d (slT Kn.dv 4 l)), (3, .d (.v (.int .i64 ((i : Nat) : Int))))]) (fun i => []) (0) ⟨Nat.zero_le _, fun j h => absurd h (Nat.not_lt_zero j)⟩ ⟨⟨rfl, rfl⟩, ⟨rfl, rfl⟩, trivial⟩ trivial (fun i hI => ?_)
  obtain ⟨i1, i2⟩ := hI
  refine .seq ?_
  refine .seq ?_
  refine .region ?_
  refine .step rfl (.move rfl rfl) ?_
  refine .step rfl (.move rfl rfl) ?_
  refine .step rfl (.len rfl rfl ⟨_, _, rfl⟩ is24) ?_
  refine .step rfl (.bin rfl rfl rfl rfl) ?_
  refine .nil ?_
  refine .next ?_
  refine .cond rfl (fun h1 => ?_) (fun h1 => ?_)
  ·skip
   have hi : i < l.length := by have q := of_decide_eq_true h1; (try dsimp only at q); omega
   refine .skip ?_
   refine .next ?_
   refine .seq ?_
   refine .block ?_
   refine .seq ?_
   refine .region ?_
   refine .step rfl (.move rfl rfl) ?_
   refine .step rfl (.move rfl rfl) ?_
   refine .step rfl (.idx (l[i]) rfl rfl rfl rfl et24 (fun _ => rfl) (Int.natCast_nonneg i) (get_nat hi)) ?_
   refine .step rfl (.fielde rfl rfl rfl fo32_0) ?_
   refine .step rfl (.ldem (ds := En.dv ⟨l[i].nm, l[i].ver, l[i].key⟩) rfl rfl rfl rfl rfl tk30) ?_
   refine .step rfl (.alloc 1 rfl rfl zc30 rfl) ?_
   refine .step rfl (.store rfl rfl rfl sz30 rfl rfl) ?_
   refine .nil ?_
   refine .next ?_
   refine .seq ?_
   refine .seq ?_
   refine .region ?_
   refine .step rfl (.ldpm rfl rfl rfl rfl rfl rfl tk30) ?_
   refine .step rfl (.callf rfl cf35 rfl ⟨trivial, trivial⟩ (emay_pf ⟨l[i].nm, l[i].ver, l[i].key⟩)) ?_
   refine .case 17 rfl (fun h2 => ?_) (fun h2 => ?_)
   ·skip
    have hR : rightE l[i].nm l[i].ver l[i].key = true := h2
    refine .step rfl (.un rfl rfl rfl) ?_
    refine .step rfl (.move rfl rfl) ?_
    refine .go 19 rfl rfl rfl rfl (.move rfl rfl) ?_
    refine .go 19 rfl rfl rfl rfl (.move rfl rfl) ?_
    refine .go 19 rfl rfl rfl rfl (.idx (l[i]) rfl rfl rfl rfl et24 (fun _ => rfl) (Int.natCast_nonneg i) (get_nat hi)) ?_
    refine .go 19 rfl rfl rfl rfl (.fielde rfl rfl rfl fo32_1) ?_
    refine .go 19 rfl rfl rfl rfl (.lde rfl rfl rfl rfl tk3) ?_
    refine .go 19 rfl rfl rfl rfl (.bin rfl rfl rfl rfl) ?_
    refine .step rfl (.pick rfl rfl rfl) ?_
    refine .nil ?_
    refine .next ?_
    refine .cond rfl (fun h3 => ?_) (fun h3 => ?_)
    ·skip
     have hep : ¬ 1 ≤ l[i].ep := by have q : l[i].ep < 1 := of_decide_eq_true h3; omega
     have hs := stepAt_ep hi hep
     refine .seq ?_
     refine .region ?_
     refine .step rfl (.assign rfl rfl) ?_
     refine .nil ?_
     refine .next ?_
     refine .ret ?_
     rw [rightK_false hi hs]
     exact TE.retf rfl rfl rfl trivial
    ·skip
     have hep : 1 ≤ l[i].ep := by have q : ¬ l[i].ep < 1 := of_decide_eq_false h3; omega
     refine .skip ?_
     refine .next ?_
     refine .seq ?_
     refine .seq ?_
     by_cases h0 : 0 < i
     ·skip
      have hi1 : i - 1 < l.length := by omega
      have hn0 : ¬ i = 0 := by omega
      refine .draw mixed [Ro.mk _ (Eff.mk (some (27, _)) []) [], Ro.mk _ (Eff.mk (some (28, _)) []) [], Ro.mk _ (Eff.mk (some (29, _)) []) [], Ro.mk _ (Eff.mk (some (30, _)) []) [], Ro.mk _ (Eff.mk (some (31, _)) []) [], Ro.mk _ (Eff.mk (some (32, _)) []) [], Ro.mk _ (Eff.mk (some (33, _)) []) [], Ro.mk _ (Eff.mk (some (34, _)) []) [], Ro.mk _ (Eff.mk (some (35, _)) []) [], Ro.mk _ (Eff.mk (some (36, _)) []) [], Ro.mk _ (Eff.mk (some (37, _)) []) [1], Ro.mk _ (Eff.mk (some (38, _)) []) [1], Ro.mk _ (Eff.mk (some (39, _)) []) [], Ro.mk _ (Eff.mk (some (40, _)) []) []] rfl ⟨(fun _ _ => .move rfl rfl), (fun _ _ => .binv (.bool true) rfl rfl rfl rfl (congrArg Value.bool (decide_eq_true (by omega)))), (fun _ _ => .move rfl rfl), (.inr ⟨29, _, rfl, rfl, rfl, rfl, fun _ _ => .move rfl rfl⟩), (.inr ⟨29, _, rfl, rfl, rfl, rfl, fun _ _ => .move rfl rfl⟩), (.inr ⟨29, _, rfl, rfl, rfl, rfl, fun _ _ => .binv (.int .i64 ((i - 1 : Nat) : Int)) rfl rfl rfl rfl (congrArg _ (by (try dsimp only); rw [IntKind.wrap_i64]; omega))⟩), (.inr ⟨29, _, rfl, rfl, rfl, rfl, fun _ _ => .idx (l[i - 1]) rfl rfl rfl rfl et24 (fun _ => rfl) (Int.natCast_nonneg _) (get_nat hi1)⟩), (.inr ⟨29, _, rfl, rfl, rfl, rfl, fun _ _ => .fielde rfl rfl rfl fo32_0⟩), (.inr ⟨29, _, rfl, rfl, rfl, rfl, fun _ _ => .fielde rfl rfl rfl fo30_0⟩), (.inr ⟨29, _, rfl, rfl, rfl, rfl, fun _ _ => .lde rfl rfl rfl rfl tk9⟩), (.inr ⟨29, _, rfl, rfl, rfl, rfl, fun _ _ => .fieldp rfl rfl rfl rfl fo30_0⟩), (.inr ⟨29, _, rfl, rfl, rfl, rfl, fun _ _ => .ldp rfl rfl rfl rfl rfl tk9⟩), (.inr ⟨29, _, rfl, rfl, rfl, rfl, fun _ _ => .bin rfl rfl rfl rfl⟩), (fun _ _ => .pick rfl rfl rfl), trivial⟩ (by kernel_rfl) ?_
      refine .next ?_
      refine .cond rfl (fun h5 => ?_) (fun h5 => ?_)
      ·skip
       have hbl : Op.bytesLess l[i].nm l[i - 1].nm = true := (bl_gtr _ _).symm.trans h5
       have hs : stepAt l i = false := by rw [stepAt_prev hi hn0 hi1]; exact stepB_less hbl
       refine .seq ?_
       refine .region ?_
       refine .step rfl (.assign rfl rfl) ?_
       refine .nil ?_
       refine .next ?_
       refine .ret ?_
       rw [rightK_false hi hs]
       exact TE.retf rfl rfl rfl trivial
      ·skip
       have hbl : Op.bytesLess l[i].nm l[i - 1].nm = false := (bl_gtr _ _).symm.trans h5
       refine .skip ?_
       refine .next ?_
       refine .seq ?_
       by_cases hnm : l[i - 1].nm = l[i].nm
       ·skip
        refine .draw mixed [Ro.mk _ (Eff.mk (some (41, _)) []) [], Ro.mk _ (Eff.mk (some (42, _)) []) [], Ro.mk _ (Eff.mk (some (43, _)) []) [], Ro.mk _ (Eff.mk (some (44, _)) []) [], Ro.mk _ (Eff.mk (some (45, _)) []) [], Ro.mk _ (Eff.mk (some (46, _)) []) [], Ro.mk _ (Eff.mk (some (47, _)) []) [], Ro.mk _ (Eff.mk (some (48, _)) []) [], Ro.mk _ (Eff.mk (some (49, _)) []) [], Ro.mk _ (Eff.mk (some (50, _)) []) [], Ro.mk _ (Eff.mk (some (51, _)) []) [1], Ro.mk _ (Eff.mk (some (52, _)) []) [1], Ro.mk _ (Eff.mk (some (53, _)) []) [], Ro.mk _ (Eff.mk (some (54, _)) []) []] rfl ⟨(fun _ _ => .move rfl rfl), (fun _ _ => .binv (.bool true) rfl rfl rfl rfl (congrArg Value.bool (decide_eq_true (by omega)))), (fun _ _ => .move rfl rfl), (.inr ⟨43, _, rfl, rfl, rfl, rfl, fun _ _ => .move rfl rfl⟩), (.inr ⟨43, _, rfl, rfl, rfl, rfl, fun _ _ => .move rfl rfl⟩), (.inr ⟨43, _, rfl, rfl, rfl, rfl, fun _ _ => .binv (.int .i64 ((i - 1 : Nat) : Int)) rfl rfl rfl rfl (congrArg _ (by (try dsimp only); rw [IntKind.wrap_i64]; omega))⟩), (.inr ⟨43, _, rfl, rfl, rfl, rfl, fun _ _ => .idx (l[i - 1]) rfl rfl rfl rfl et24 (fun _ => rfl) (Int.natCast_nonneg _) (get_nat hi1)⟩), (.inr ⟨43, _, rfl, rfl, rfl, rfl, fun _ _ => .fielde rfl rfl rfl fo32_0⟩), (.inr ⟨43, _, rfl, rfl, rfl, rfl, fun _ _ => .fielde rfl rfl rfl fo30_0⟩), (.inr ⟨43, _, rfl, rfl, rfl, rfl, fun _ _ => .lde rfl rfl rfl rfl tk9⟩), (.inr ⟨43, _, rfl, rfl, rfl, rfl, fun _ _ => .fieldp rfl rfl rfl rfl fo30_0⟩), (.inr ⟨43, _, rfl, rfl, rfl, rfl, fun _ _ => .ldp rfl rfl rfl rfl rfl tk9⟩), (.inr ⟨43, _, rfl, rfl, rfl, rfl, fun _ _ => .binv (.bool true) rfl rfl rfl rfl (congrArg Value.bool (decide_eq_true hnm))⟩), (fun _ _ => .pick rfl rfl rfl), trivial⟩ (by kernel_rfl) ?_
        refine .next ?_
        refine .cond rfl (fun h7 => ?_) (fun h7 => absurd h7 (by decide))
        refine .seq ?_
        by_cases hv2 : l[i].ver = i64w (l[i - 1].ver + 1)
        ·skip
         refine .draw mixed [Ro.mk _ (Eff.mk (some (55, _)) []) [1], Ro.mk _ (Eff.mk (some (56, _)) []) [1], Ro.mk _ (Eff.mk (some (57, _)) []) [], Ro.mk _ (Eff.mk (some (58, _)) []) [], Ro.mk _ (Eff.mk (some (59, _)) []) [], Ro.mk _ (Eff.mk (some (60, _)) []) [], Ro.mk _ (Eff.mk (some (61, _)) []) [], Ro.mk _ (Eff.mk (some (62, _)) []) [], Ro.mk _ (Eff.mk (some (63, _)) []) [], Ro.mk _ (Eff.mk (some (64, _)) []) [], Ro.mk _ (Eff.mk (some (65, _)) []) [], Ro.mk _ (Eff.mk (some (66, _)) []) [], Ro.mk _ (Eff.mk (some (67, _)) []) [], Ro.mk _ (Eff.mk (some (68, _)) []) [], Ro.mk _ (Eff.mk (some (69, _)) []) [], Ro.mk _ (Eff.mk (some (70, _)) []) [], Ro.mk _ (Eff.mk (some (71, _)) []) [], Ro.mk _ (Eff.mk (some (72, _)) []) [], Ro.mk _ (Eff.mk (some (73, _)) []) [], Ro.mk _ (Eff.mk (some (74, _)) []) [], Ro.mk _ (Eff.mk (some (75, _)) []) [], Ro.mk _ (Eff.mk (some (76, _)) []) [], Ro.mk _ (Eff.mk (some (77, _)) []) [], Ro.mk _ (Eff.mk (some (78, _)) []) [], Ro.mk _ (Eff.mk (some (79, _)) []) []] rfl ⟨(fun _ _ => .fieldp rfl rfl rfl rfl fo30_1), (fun _ _ => .ldp rfl rfl rfl rfl rfl tk3), (fun _ _ => .move rfl rfl), (fun _ _ => .move rfl rfl), (fun _ _ => .binv (.int .i64 ((i - 1 : Nat) : Int)) rfl rfl rfl rfl (congrArg _ (by (try dsimp only); rw [IntKind.wrap_i64]; omega))), (fun _ _ => .idx (l[i - 1]) rfl rfl rfl rfl et24 (fun _ => rfl) (Int.natCast_nonneg _) (get_nat hi1)), (fun _ _ => .fielde rfl rfl rfl fo32_0), (fun _ _ => .fielde rfl rfl rfl fo30_1), (fun _ _ => .lde rfl rfl rfl rfl tk3), (fun _ _ => .bin rfl rfl rfl rfl), (fun _ _ => .binv (.bool false) rfl rfl rfl rfl (congrArg (fun x => Value.bool (!x)) (decide_eq_true hv2))), (fun _ _ => .move rfl rfl), (.inr ⟨66, _, rfl, rfl, rfl, rfl, fun _ _ => .move rfl rfl⟩), (.inr ⟨66, _, rfl, rfl, rfl, rfl, fun _ _ => .move rfl rfl⟩), (.inr ⟨66, _, rfl, rfl, rfl, rfl, fun _ _ => .idx (l[i]) rfl rfl rfl rfl et24 (fun _ => rfl) (Int.natCast_nonneg i) (get_nat hi)⟩), (.inr ⟨66, _, rfl, rfl, rfl, rfl, fun _ _ => .fielde rfl rfl rfl fo32_1⟩), (.inr ⟨66, _, rfl, rfl, rfl, rfl, fun _ _ => .lde rfl rfl rfl rfl tk3⟩), (.inr ⟨66, _, rfl, rfl, rfl, rfl, fun _ _ => .move rfl rfl⟩), (.inr ⟨66, _, rfl, rfl, rfl, rfl, fun _ _ => .move rfl rfl⟩), (.inr ⟨66, _, rfl, rfl, rfl, rfl, fun _ _ => .binv (.int .i64 ((i - 1 : Nat) : Int)) rfl rfl rfl rfl (congrArg _ (by (try dsimp only); rw [IntKind.wrap_i64]; omega))⟩), (.inr ⟨66, _, rfl, rfl, rfl, rfl, fun _ _ => .idx (l[i - 1]) rfl rfl rfl rfl et24 (fun _ => rfl) (Int.natCast_nonneg _) (get_nat hi1)⟩), (.inr ⟨66, _, rfl, rfl, rfl, rfl, fun _ _ => .fielde rfl rfl rfl fo32_1⟩), (.inr ⟨66, _, rfl, rfl, rfl, rfl, fun _ _ => .lde rfl rfl rfl rfl tk3⟩), (.inr ⟨66, _, rfl, rfl, rfl, rfl, fun _ _ => .bin rfl rfl rfl rfl⟩), (fun _ _ => .pick rfl rfl rfl), trivial⟩ (by kernel_rfl) ?_
         refine .next ?_
         refine .cond rfl (fun h9 => ?_) (fun h9 => ?_)
         ·skip
          have hep2 : l[i].ep ≤ l[i - 1].ep := of_decide_eq_true h9
          have hs : stepAt l i = false := by rw [stepAt_prev hi hn0 hi1]; simp [stepB, hnm, hep2]
          refine .seq ?_
          refine .region ?_
          refine .step rfl (.assign rfl rfl) ?_
          refine .nil ?_
          refine .next ?_
          refine .ret ?_
          rw [rightK_false hi hs]
          exact TE.retf rfl rfl rfl trivial
         ·skip
          have hep2 : l[i - 1].ep < l[i].ep := by have q : ¬ l[i].ep ≤ l[i - 1].ep := of_decide_eq_false h9; omega
          have hs : stepAt l i = true := by rw [stepAt_prev hi hn0 hi1]; exact stepB_next hR hep hnm hv2 hep2
          refine .skip ?_
          refine TE.blk ?_
          refine .next ?_
          refine .region ?_
          refine .step rfl (.move rfl rfl) ?_
          refine .step rfl (.binv (.int .i64 ((i + 1 : Nat) : Int)) rfl rfl rfl rfl (congrArg _ (by (try dsimp only); rw [IntKind.wrap_i64]; omega))) ?_
          refine .step rfl (.assign rfl rfl) ?_
          refine .nil ?_
          refine TE.setv 3 (.int .i64 ((i + 1 : Nat) : Int)) rfl (congrArg _ (by first | rfl | (dsimp only; first | done | rfl | omega))) ?_
          exact TE.round id (fun _ _ e => e) (i + 1) ⟨hi, fun j hj => (Nat.lt_or_eq_of_le (Nat.le_of_lt_succ hj)).elim (i2 j) (fun e => by subst e; exact hs)⟩ (by omega) ⟨⟨rfl, rfl⟩, ⟨rfl, rfl⟩, trivial⟩ trivial
        ·skip
         have hs : stepAt l i = false := by rw [stepAt_prev hi hn0 hi1]; simp [stepB, hv2, hnm]
         refine .draw mixed [Ro.mk _ (Eff.mk (some (55, _)) []) [1], Ro.mk _ (Eff.mk (some (56, _)) []) [1], Ro.mk _ (Eff.mk (some (57, _)) []) [], Ro.mk _ (Eff.mk (some (58, _)) []) [], Ro.mk _ (Eff.mk (some (59, _)) []) [], Ro.mk _ (Eff.mk (some (60, _)) []) [], Ro.mk _ (Eff.mk (some (61, _)) []) [], Ro.mk _ (Eff.mk (some (62, _)) []) [], Ro.mk _ (Eff.mk (some (63, _)) []) [], Ro.mk _ (Eff.mk (some (64, _)) []) [], Ro.mk _ (Eff.mk (some (65, _)) []) [], Ro.mk _ (Eff.mk (some (66, _)) []) [], Ro.mk _ (Eff.mk (some (67, _)) []) [], Ro.mk _ (Eff.mk (some (68, _)) []) [], Ro.mk _ (Eff.mk (some (69, _)) []) [], Ro.mk _ (Eff.mk (some (70, _)) []) [], Ro.mk _ (Eff.mk (some (71, _)) []) [], Ro.mk _ (Eff.mk (some (72, _)) []) [], Ro.mk _ (Eff.mk (some (73, _)) []) [], Ro.mk _ (Eff.mk (some (74, _)) []) [], Ro.mk _ (Eff.mk (some (75, _)) []) [], Ro.mk _ (Eff.mk (some (76, _)) []) [], Ro.mk _ (Eff.mk (some (77, _)) []) [], Ro.mk _ (Eff.mk (some (78, _)) []) [], Ro.mk _ (Eff.mk (some (79, _)) []) []] rfl ⟨(fun _ _ => .fieldp rfl rfl rfl rfl fo30_1), (fun _ _ => .ldp rfl rfl rfl rfl rfl tk3), (fun _ _ => .move rfl rfl), (fun _ _ => .move rfl rfl), (fun _ _ => .binv (.int .i64 ((i - 1 : Nat) : Int)) rfl rfl rfl rfl (congrArg _ (by (try dsimp only); rw [IntKind.wrap_i64]; omega))), (fun _ _ => .idx (l[i - 1]) rfl rfl rfl rfl et24 (fun _ => rfl) (Int.natCast_nonneg _) (get_nat hi1)), (fun _ _ => .fielde rfl rfl rfl fo32_0), (fun _ _ => .fielde rfl rfl rfl fo30_1), (fun _ _ => .lde rfl rfl rfl rfl tk3), (fun _ _ => .bin rfl rfl rfl rfl), (fun _ _ => .binv (.bool true) rfl rfl rfl rfl (congrArg (fun x => Value.bool (!x)) (decide_eq_false hv2))), (fun _ _ => .move rfl rfl), (.inr ⟨66, _, rfl, rfl, rfl, rfl, 67, rfl, rfl, rfl⟩), (.inr ⟨66, _, rfl, rfl, rfl, rfl, 68, rfl, rfl, rfl⟩), (.inr ⟨66, _, rfl, rfl, rfl, rfl, 69, rfl, rfl, rfl⟩), (.inr ⟨66, _, rfl, rfl, rfl, rfl, 70, rfl, rfl, rfl⟩), (.inr ⟨66, _, rfl, rfl, rfl, rfl, 71, rfl, rfl, rfl⟩), (.inr ⟨66, _, rfl, rfl, rfl, rfl, 72, rfl, rfl, rfl⟩), (.inr ⟨66, _, rfl, rfl, rfl, rfl, 73, rfl, rfl, rfl⟩), (.inr ⟨66, _, rfl, rfl, rfl, rfl, 74, rfl, rfl, rfl⟩), (.inr ⟨66, _, rfl, rfl, rfl, rfl, 75, rfl, rfl, rfl⟩), (.inr ⟨66, _, rfl, rfl, rfl, rfl, 76, rfl, rfl, rfl⟩), (.inr ⟨66, _, rfl, rfl, rfl, rfl, 77, rfl, rfl, rfl⟩), (.inr ⟨66, _, rfl, rfl, rfl, rfl, 78, rfl, rfl, rfl⟩), (fun _ _ => .pick rfl rfl rfl), trivial⟩ (by kernel_rfl) ?_
         refine .next ?_
         refine .cond rfl (fun h10 => ?_) (fun h10 => absurd h10 (by decide))
         refine .seq ?_
         refine .region ?_
         refine .step rfl (.assign rfl rfl) ?_
         refine .nil ?_
         refine .next ?_
         refine .ret ?_
         rw [rightK_false hi hs]
         exact TE.retf rfl rfl rfl trivial
       ·skip
        refine .draw mixed [Ro.mk _ (Eff.mk (some (41, _)) []) [], Ro.mk _ (Eff.mk (some (42, _)) []) [], Ro.mk _ (Eff.mk (some (43, _)) []) [], Ro.mk _ (Eff.mk (some (44, _)) []) [], Ro.mk _ (Eff.mk (some (45, _)) []) [], Ro.mk _ (Eff.mk (some (46, _)) []) [], Ro.mk _ (Eff.mk (some (47, _)) []) [], Ro.mk _ (Eff.mk (some (48, _)) []) [], Ro.mk _ (Eff.mk (some (49, _)) []) [], Ro.mk _ (Eff.mk (some (50, _)) []) [], Ro.mk _ (Eff.mk (some (51, _)) []) [1], Ro.mk _ (Eff.mk (some (52, _)) []) [1], Ro.mk _ (Eff.mk (some (53, _)) []) [], Ro.mk _ (Eff.mk (some (54, _)) []) []] rfl ⟨(fun _ _ => .move rfl rfl), (fun _ _ => .binv (.bool true) rfl rfl rfl rfl (congrArg Value.bool (decide_eq_true (by omega)))), (fun _ _ => .move rfl rfl), (.inr ⟨43, _, rfl, rfl, rfl, rfl, fun _ _ => .move rfl rfl⟩), (.inr ⟨43, _, rfl, rfl, rfl, rfl, fun _ _ => .move rfl rfl⟩), (.inr ⟨43, _, rfl, rfl, rfl, rfl, fun _ _ => .binv (.int .i64 ((i - 1 : Nat) : Int)) rfl rfl rfl rfl (congrArg _ (by (try dsimp only); rw [IntKind.wrap_i64]; omega))⟩), (.inr ⟨43, _, rfl, rfl, rfl, rfl, fun _ _ => .idx (l[i - 1]) rfl rfl rfl rfl et24 (fun _ => rfl) (Int.natCast_nonneg _) (get_nat hi1)⟩), (.inr ⟨43, _, rfl, rfl, rfl, rfl, fun _ _ => .fielde rfl rfl rfl fo32_0⟩), (.inr ⟨43, _, rfl, rfl, rfl, rfl, fun _ _ => .fielde rfl rfl rfl fo30_0⟩), (.inr ⟨43, _, rfl, rfl, rfl, rfl, fun _ _ => .lde rfl rfl rfl rfl tk9⟩), (.inr ⟨43, _, rfl, rfl, rfl, rfl, fun _ _ => .fieldp rfl rfl rfl rfl fo30_0⟩), (.inr ⟨43, _, rfl, rfl, rfl, rfl, fun _ _ => .ldp rfl rfl rfl rfl rfl tk9⟩), (.inr ⟨43, _, rfl, rfl, rfl, rfl, fun _ _ => .binv (.bool false) rfl rfl rfl rfl (congrArg Value.bool (decide_eq_false hnm))⟩), (fun _ _ => .pick rfl rfl rfl), trivial⟩ (by kernel_rfl) ?_
        refine .next ?_
        refine .cond rfl (fun h11 => absurd h11 (by decide)) (fun h11 => ?_)
        refine .seq ?_
        refine .region ?_
        refine .step rfl (.fieldp rfl rfl rfl rfl fo30_1) ?_
        refine .step rfl (.ldp rfl rfl rfl rfl rfl tk3) ?_
        refine .step rfl (.bin rfl rfl rfl rfl) ?_
        refine .nil ?_
        refine .next ?_
        refine .cond rfl (fun h12 => ?_) (fun h12 => ?_)
        ·skip
         have hv1 : ¬ l[i].ver = 1 := by simpa using h12
         have hs : stepAt l i = false := by first | (rw [stepAt_zero hi hz]; simp [stepB, hv1]) | (rw [stepAt_prev hi hn0 hi1]; simp [stepB, hv1, hnm])
         refine .seq ?_
         refine .region ?_
         refine .step rfl (.assign rfl rfl) ?_
         refine .nil ?_
         refine .next ?_
         refine .ret ?_
         rw [rightK_false hi hs]
         exact TE.retf rfl rfl rfl trivial
        ·skip
         have hv1 : l[i].ver = 1 := by simpa using h12
         have hs : stepAt l i = true := by first | (rw [stepAt_zero hi hz]; exact stepB_first hR hep hv1) | (rw [stepAt_prev hi hn0 hi1]; exact stepB_new hR hep hnm hbl hv1)
         refine .skip ?_
         refine TE.blk ?_
         refine .next ?_
         refine .region ?_
         refine .step rfl (.move rfl rfl) ?_
         refine .step rfl (.binv (.int .i64 ((i + 1 : Nat) : Int)) rfl rfl rfl rfl (congrArg _ (by (try dsimp only); rw [IntKind.wrap_i64]; omega))) ?_
         refine .step rfl (.assign rfl rfl) ?_
         refine .nil ?_
         refine TE.setv 3 (.int .i64 ((i + 1 : Nat) : Int)) rfl (congrArg _ (by first | rfl | (dsimp only; first | done | rfl | omega))) ?_
         exact TE.round id (fun _ _ e => e) (i + 1) ⟨hi, fun j hj => (Nat.lt_or_eq_of_le (Nat.le_of_lt_succ hj)).elim (i2 j) (fun e => by subst e; exact hs)⟩ (by omega) ⟨⟨rfl, rfl⟩, ⟨rfl, rfl⟩, trivial⟩ trivial
     ·skip
      have hz : i = 0 := by omega
      refine .draw mixed [Ro.mk _ (Eff.mk (some (27, _)) []) [], Ro.mk _ (Eff.mk (some (28, _)) []) [], Ro.mk _ (Eff.mk (some (29, _)) []) [], Ro.mk _ (Eff.mk (some (30, _)) []) [], Ro.mk _ (Eff.mk (some (31, _)) []) [], Ro.mk _ (Eff.mk (some (32, _)) []) [], Ro.mk _ (Eff.mk (some (33, _)) []) [], Ro.mk _ (Eff.mk (some (34, _)) []) [], Ro.mk _ (Eff.mk (some (35, _)) []) [], Ro.mk _ (Eff.mk (some (36, _)) []) [], Ro.mk _ (Eff.mk (some (37, _)) []) [], Ro.mk _ (Eff.mk (some (38, _)) []) [], Ro.mk _ (Eff.mk (some (39, _)) []) [], Ro.mk _ (Eff.mk (some (40, _)) []) []] rfl ⟨(fun _ _ => .move rfl rfl), (fun _ _ => .binv (.bool false) rfl rfl rfl rfl (congrArg Value.bool (decide_eq_false (by omega)))), (fun _ _ => .move rfl rfl), (.inr ⟨29, _, rfl, rfl, rfl, rfl, 30, rfl, rfl, rfl⟩), (.inr ⟨29, _, rfl, rfl, rfl, rfl, 31, rfl, rfl, rfl⟩), (.inr ⟨29, _, rfl, rfl, rfl, rfl, 32, rfl, rfl, rfl⟩), (.inr ⟨29, _, rfl, rfl, rfl, rfl, 33, rfl, rfl, rfl⟩), (.inr ⟨29, _, rfl, rfl, rfl, rfl, 34, rfl, rfl, rfl⟩), (.inr ⟨29, _, rfl, rfl, rfl, rfl, 35, rfl, rfl, rfl⟩), (.inr ⟨29, _, rfl, rfl, rfl, rfl, 36, rfl, rfl, rfl⟩), (.inr ⟨29, _, rfl, rfl, rfl, rfl, 37, rfl, rfl, rfl⟩), (.inr ⟨29, _, rfl, rfl, rfl, rfl, 38, rfl, rfl, rfl⟩), (.inr ⟨29, _, rfl, rfl, rfl, rfl, 39, rfl, rfl, rfl⟩), (fun _ _ => .pick rfl rfl rfl), trivial⟩ (by kernel_rfl) ?_
      refine .next ?_
      refine .cond rfl (fun h13 => absurd h13 (by decide)) (fun h13 => ?_)
      refine .skip ?_
      refine .next ?_
      refine .seq ?_
      refine .draw mixed [Ro.mk _ (Eff.mk (some (41, _)) []) [], Ro.mk _ (Eff.mk (some (42, _)) []) [], Ro.mk _ (Eff.mk (some (43, _)) []) [], Ro.mk _ (Eff.mk (some (44, _)) []) [], Ro.mk _ (Eff.mk (some (45, _)) []) [], Ro.mk _ (Eff.mk (some (46, _)) []) [], Ro.mk _ (Eff.mk (some (47, _)) []) [], Ro.mk _ (Eff.mk (some (48, _)) []) [], Ro.mk _ (Eff.mk (some (49, _)) []) [], Ro.mk _ (Eff.mk (some (50, _)) []) [], Ro.mk _ (Eff.mk (some (51, _)) []) [], Ro.mk _ (Eff.mk (some (52, _)) []) [], Ro.mk _ (Eff.mk (some (53, _)) []) [], Ro.mk _ (Eff.mk (some (54, _)) []) []] rfl ⟨(fun _ _ => .move rfl rfl), (fun _ _ => .binv (.bool false) rfl rfl rfl rfl (congrArg Value.bool (decide_eq_false (by omega)))), (fun _ _ => .move rfl rfl), (.inr ⟨43, _, rfl, rfl, rfl, rfl, 44, rfl, rfl, rfl⟩), (.inr ⟨43, _, rfl, rfl, rfl, rfl, 45, rfl, rfl, rfl⟩), (.inr ⟨43, _, rfl, rfl, rfl, rfl, 46, rfl, rfl, rfl⟩), (.inr ⟨43, _, rfl, rfl, rfl, rfl, 47, rfl, rfl, rfl⟩), (.inr ⟨43, _, rfl, rfl, rfl, rfl, 48, rfl, rfl, rfl⟩), (.inr ⟨43, _, rfl, rfl, rfl, rfl, 49, rfl, rfl, rfl⟩), (.inr ⟨43, _, rfl, rfl, rfl, rfl, 50, rfl, rfl, rfl⟩), (.inr ⟨43, _, rfl, rfl, rfl, rfl, 51, rfl, rfl, rfl⟩), (.inr ⟨43, _, rfl, rfl, rfl, rfl, 52, rfl, rfl, rfl⟩), (.inr ⟨43, _, rfl, rfl, rfl, rfl, 53, rfl, rfl, rfl⟩), (fun _ _ => .pick rfl rfl rfl), trivial⟩ (by kernel_rfl) ?_
      refine .next ?_
      refine .cond rfl (fun h14 => absurd h14 (by decide)) (fun h14 => ?_)
      refine .seq ?_
      refine .region ?_
      refine .step rfl (.fieldp rfl rfl rfl rfl fo30_1) ?_
      refine .step rfl (.ldp rfl rfl rfl rfl rfl tk3) ?_
      refine .step rfl (.bin rfl rfl rfl rfl) ?_
      refine .nil ?_
      refine .next ?_
      refine .cond rfl (fun h15 => ?_) (fun h15 => ?_)
      ·skip
       have hv1 : ¬ l[i].ver = 1 := by simpa using h15
       have hs : stepAt l i = false := by first | (rw [stepAt_zero hi hz]; simp [stepB, hv1]) | (rw [stepAt_prev hi hn0 hi1]; simp [stepB, hv1, hnm])
       refine .seq ?_
       refine .region ?_
       refine .step rfl (.assign rfl rfl) ?_
       refine .nil ?_
       refine .next ?_
       refine .ret ?_
       rw [rightK_false hi hs]
       exact TE.retf rfl rfl rfl trivial
      ·skip
       have hv1 : l[i].ver = 1 := by simpa using h15
       have hs : stepAt l i = true := by first | (rw [stepAt_zero hi hz]; exact stepB_first hR hep hv1) | (rw [stepAt_prev hi hn0 hi1]; exact stepB_new hR hep hnm hbl hv1)
       refine .skip ?_
       refine TE.blk ?_
       refine .next ?_
       refine .region ?_
       refine .step rfl (.move rfl rfl) ?_
       refine .step rfl (.binv (.int .i64 ((i + 1 : Nat) : Int)) rfl rfl rfl rfl (congrArg _ (by (try dsimp only); rw [IntKind.wrap_i64]; omega))) ?_
       refine .step rfl (.assign rfl rfl) ?_
       refine .nil ?_
       refine TE.setv 3 (.int .i64 ((i + 1 : Nat) : Int)) rfl (congrArg _ (by first | rfl | (dsimp only; first | done | rfl | omega))) ?_
       exact TE.round id (fun _ _ e => e) (i + 1) ⟨hi, fun j hj => (Nat.lt_or_eq_of_le (Nat.le_of_lt_succ hj)).elim (i2 j) (fun e => by subst e; exact hs)⟩ (by omega) ⟨⟨rfl, rfl⟩, ⟨rfl, rfl⟩, trivial⟩ trivial
   ·skip
    have hR : rightE l[i].nm l[i].ver l[i].key = false := h2
    have hs := stepAt_right hi hR
    refine .step rfl (.un rfl rfl rfl) ?_
    refine .step rfl (.move rfl rfl) ?_
    refine .no 19 rfl rfl rfl rfl rfl rfl rfl ?_
    refine .no 19 rfl rfl rfl rfl rfl rfl rfl ?_
    refine .no 19 rfl rfl rfl rfl rfl rfl rfl ?_
    refine .no 19 rfl rfl rfl rfl rfl rfl rfl ?_
    refine .no 19 rfl rfl rfl rfl rfl rfl rfl ?_
    refine .no 19 rfl rfl rfl rfl rfl rfl rfl ?_
    refine .step rfl (.pick rfl rfl rfl) ?_
    refine .nil ?_
    refine .next ?_
    refine .cond rfl (fun h16 => ?_) (fun h16 => absurd h16 (by decide))
    refine .seq ?_
    refine .region ?_
    refine .step rfl (.assign rfl rfl) ?_
    refine .nil ?_
    refine .next ?_
    refine .ret ?_
    rw [rightK_false hi hs]
    exact TE.retf rfl rfl rfl trivial
  ·skip
   have hi : ¬ (i < l.length) := by have q := of_decide_eq_false h1; (try dsimp only at q); omega
   have e : rightK l = true := rightK_true fun j hj => i2 j (by omega)
   refine .exit ?_
   refine TE.pass ?_
   refine TE.pass ?_
   refine TE.here ?_
   refine .next ?_
   refine .seq ?_
   refine .region ?_
   refine .step rfl (.assign rfl rfl) ?_
   refine .nil ?_
   refine .next ?_
   refine .ret ?_
   rw [e]
   exact TE.retf rfl rfl rfl trivial

end Go.Proofs.Ythidepbffhhkmaa
