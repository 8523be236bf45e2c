/-
  Lists joined.
-/
import Derived.Test.YthbcbfghfhecjaaVi
import Derived.Test.YthbcbfghfhecjaaTg
namespace Go.Proofs.Ythbcbfghfhecjaa
set_option linter.unusedVariables false
set_option linter.unusedSimpArgs false
open Go.RowKit Pl

theorem ap25 : apt Try.prog 25 = some (35, 64, 64) := by kernel_rfl
theorem cf43 : cfn Try.prog 43 = true := by kernel_rfl
theorem et64 : elt Try.prog 64 = some (25, 1) := by kernel_rfl
theorem is64 : isSl Try.prog 64 = some true := by kernel_rfl
theorem tk25 : tyk Try.prog 25 = some none := by kernel_rfl

set_option maxRecDepth 100000 in
set_option maxHeartbeats 1600000 in
theorem grow_po (n : Nat) (hn : n ≤ 1048576) : PO Try.prog 43 [.v (.slice none 0 0), .v (.int .i64 n)] 35 64 0 [] := by
  refine PO.enter (fn := Try.f43) Try.func43 rfl Try.ntmps43 rfl (fun w0 => ?_)
  refine .seq ?_
  refine .region ?_
  refine .step rfl (.assign rfl rfl) ?_
  refine .nil ?_
  refine .next ?_
  refine .seq ?_
  refine .seq ?_
  refine .region ?_
  refine .step rfl (.move rfl rfl) ?_
  refine .step rfl (.bin rfl rfl rfl rfl) ?_
  refine .nil ?_
  refine .next ?_
  refine .cond rfl (fun h1 => absurd (of_decide_eq_true h1) (by (try dsimp only); omega)) (fun h1 => ?_)
  refine .skip ?_
  refine .next ?_
  refine .seq ?_
  refine .seq ?_
  refine .region ?_
  refine .step rfl (.move rfl rfl) ?_
  refine .step rfl (.move rfl rfl) ?_
  refine .step rfl (.cap0 rfl rfl et25) ?_
  refine .step rfl (.move rfl rfl) ?_
  refine .step rfl (.len0 rfl rfl is25) ?_
  refine .step rfl (.binv (.int .i64 0) rfl rfl rfl rfl (rfl)) ?_
  refine .step rfl (.binv (.int .i64 ((n : Nat) : Int)) rfl rfl rfl rfl (congrArg _ (by (try dsimp only); rw [IntKind.wrap_i64]; omega))) ?_
  refine .step rfl (.assign rfl rfl) ?_
  refine .nil ?_
  refine .next ?_
  refine .seq ?_
  refine .region ?_
  refine .step rfl (.move rfl rfl) ?_
  refine .step rfl (.bin rfl rfl rfl rfl) ?_
  refine .nil ?_
  refine .next ?_
  refine .cond rfl (fun h2 => ?_) (fun h2 => ?_)
  · skip
    have h0 : 0 < n := by have q := of_decide_eq_true h2; (try dsimp only at q); omega
    refine .region ?_
    refine .step rfl (.move rfl rfl) ?_
    refine .step rfl (.move rfl rfl) ?_
    refine .step rfl (.cap0 rfl rfl et25) ?_
    refine .step rfl (.slice0 rfl rfl et25 rfl rfl) ?_
    refine .step rfl (.move rfl rfl) ?_
    refine .step rfl (.grow0 1 rfl rfl rfl rfl ap25 uk3 zc35 rfl h0 (by omega) (by unfold maxLen; omega)) ?_
    refine .step rfl (.move rfl rfl) ?_
    refine .step rfl (.len0 rfl rfl is25) ?_
    refine .step rfl (.slicef rfl rfl rfl rfl et25 rfl rfl (by omega) (by omega)) ?_
    refine .step rfl (.assign rfl rfl) ?_
    refine .nil ?_
    refine .next ?_
    refine .seq ?_
    refine .region ?_
    refine .step rfl (.move rfl rfl) ?_
    refine .step rfl (.assign rfl rfl) ?_
    refine .nil ?_
    refine .next ?_
    refine .ret ?_
    exact TE.retof rfl rfl rfl rfl (by decide) pl_nil
  · skip
    have h0 : ¬ (0 < n) := by have q := of_decide_eq_false h2; (try dsimp only at q); omega
    refine .skip ?_
    refine .next ?_
    refine .seq ?_
    refine .region ?_
    refine .step rfl (.move rfl rfl) ?_
    refine .step rfl (.assign rfl rfl) ?_
    refine .nil ?_
    refine TE.own0 4 2 35 64 rfl rfl ?_
    refine .next ?_
    refine .ret ?_
    exact TE.retof rfl rfl rfl rfl (by decide) pl_nil

set_option maxRecDepth 100000 in
set_option maxHeartbeats 1600000 in
theorem concat_po (xss : List (List It)) (hl : xss.length ≤ 1048576) (hx : xss.flatten.length ≤ 1048576) : PO Try.prog 29 [slT ildv 1 xss] 35 64 xss.flatten.length (xss.flatten.flatMap It.dv) := by
  refine PO.enter (fn := Try.f29) Try.func29 rfl Try.ntmps29 rfl (fun w0 => ?_)
  refine .seq ?_
  refine .region ?_
  refine .step rfl (.assign rfl rfl) ?_
  refine .nil ?_
  refine .next ?_
  refine .seq ?_
  refine .region ?_
  refine .step rfl (.assign rfl rfl) ?_
  refine .nil ?_
  refine TE.setv 3 (.int .i64 ((((xss.take (0)).flatten.length : Nat) : Nat) : Int)) rfl (congrArg _ (by first | rfl | (dsimp only; first | done | rfl | omega))) ?_
  refine .next ?_
  refine .seq ?_
  refine .seq ?_
  refine .region ?_
  refine .step rfl (.move rfl rfl) ?_
  refine .step rfl (.len rfl rfl ⟨_, _, rfl⟩ is64) ?_
  refine .step rfl (.move rfl rfl) ?_
  refine .nil ?_
  refine TE.setv 11 (.int .i64 ((0 : Nat) : Int)) rfl (congrArg _ (by first | rfl | (dsimp only; first | done | rfl | omega))) ?_
  refine .next ?_
  refine .block ?_
  refine TC.loop (S := Nat) (fun i => i ≤ xss.length) (fun i => xss.length - i) (fun i => [(0, .d (slT ildv 1 xss)), (3, .d (.v (.int .i64 ((((xss.take (i)).flatten.length : Nat) : Nat) : Int)))), (9, .d (slT ildv 1 xss)), (10, .f (.v (.int .i64 ((xss.length : Nat) : Int)))), (11, .d (.v (.int .i64 ((i : Nat) : Int))))]) (fun i => []) (0) (Nat.zero_le _) ⟨⟨rfl, rfl⟩, ⟨rfl, rfl⟩, ⟨rfl, rfl⟩, ⟨rfl, rfl⟩, ⟨rfl, rfl⟩, trivial⟩ trivial (fun i hI => ?_)
  refine .seq ?_
  refine .region ?_
  refine .step rfl (.bin rfl rfl rfl rfl) ?_
  refine .nil ?_
  refine .next ?_
  refine .seq ?_
  refine .cond rfl (fun h1 => ?_) (fun h1 => ?_)
  · skip
    have h : i < xss.length := by have q := of_decide_eq_true h1; (try dsimp only at q); omega
    have h2 := flat_take_len h
    have h3 := flat_take_le xss (i + 1)
    refine .skip ?_
    refine .next ?_
    refine .seq ?_
    refine .block ?_
    refine .seq ?_
    refine .region ?_
    refine .step rfl (.idx (xss[i]) rfl rfl rfl rfl et64 (fun _ => rfl) (Int.natCast_nonneg _) (get_nat h)) ?_
    refine .step rfl (.lde rfl rfl rfl rfl tk25) ?_
    refine .step rfl (.assign rfl rfl) ?_
    refine .nil ?_
    refine .next ?_
    refine .seq ?_
    refine .region ?_
    refine .step rfl (.move rfl rfl) ?_
    refine .step rfl (.move rfl rfl) ?_
    refine .step rfl (.len rfl rfl ⟨_, _, rfl⟩ is25) ?_
    refine .step rfl (.binv (.int .i64 ((((xss.take (i + 1)).flatten.length : Nat) : Nat) : Int)) rfl rfl rfl rfl (congrArg _ (by (try dsimp only); rw [IntKind.wrap_i64]; omega))) ?_
    refine .step rfl (.assign rfl rfl) ?_
    refine .nil ?_
    refine .next ?_
    refine .seq ?_
    refine .region ?_
    refine .step rfl (.move rfl rfl) ?_
    refine .step rfl (.bin rfl rfl rfl rfl) ?_
    refine .nil ?_
    refine .next ?_
    refine .cond rfl (fun h2 => absurd (of_decide_eq_true h2) (by (try dsimp only); omega)) (fun h2 => ?_)
    refine .skip ?_
    refine TE.blk ?_
    refine .next ?_
    refine .region ?_
    refine .step rfl (.binv (.int .i64 ((i + 1 : Nat) : Int)) rfl rfl rfl rfl (congrArg _ (by (try dsimp only); rw [IntKind.wrap_i64]; omega))) ?_
    refine .step rfl (.move rfl rfl) ?_
    refine .nil ?_
    refine TE.setv 3 (.int .i64 ((((xss.take (i + 1)).flatten.length : Nat) : Nat) : Int)) rfl (congrArg _ (by first | rfl | (dsimp only; first | done | rfl | omega))) ?_
    refine TE.setv 11 (.int .i64 ((i + 1 : Nat) : Int)) rfl (congrArg _ (by first | rfl | (dsimp only; first | done | rfl | omega))) ?_
    exact TE.round id (fun _ _ e => e) (i + 1) (by omega) (by omega) ⟨⟨rfl, rfl⟩, ⟨rfl, rfl⟩, ⟨rfl, rfl⟩, ⟨rfl, rfl⟩, ⟨rfl, rfl⟩, trivial⟩ trivial
  · skip
    have h : ¬ (i < xss.length) := by have q := of_decide_eq_false h1; (try dsimp only at q); omega
    have hi : i = xss.length := by have : i ≤ xss.length := hI; omega
    refine .exit ?_
    refine TE.pass ?_
    refine TE.pass ?_
    refine TE.here ?_
    refine .next ?_
    refine .seq ?_
    refine .region ?_
    refine .step rfl (.move rfl rfl) ?_
    refine .step rfl (.callo 1 rfl rfl cf43 rfl ⟨trivial, trivial, trivial⟩ (grow_po ((xss.take (i)).flatten.length : Nat) (Nat.le_trans (flat_take_le xss i) hx))) ?_
    refine .step rfl (.assign rfl rfl) ?_
    refine .nil ?_
    refine TE.set 6 (.ow 1 ((xss.take (0)).flatten.length : Nat) 64) rfl rfl ?_
    refine .next ?_
    refine .seq ?_
    refine .seq ?_
    refine .region ?_
    refine .step rfl (.move rfl rfl) ?_
    refine .step rfl (.len rfl rfl ⟨_, _, rfl⟩ is64) ?_
    refine .step rfl (.move rfl rfl) ?_
    refine .nil ?_
    refine TE.setv 27 (.int .i64 ((0 : Nat) : Int)) rfl (congrArg _ (by first | rfl | (dsimp only; first | done | rfl | omega))) ?_
    refine TE.obj 1 (.row 35 64 ((xss.take 0).flatten.flatMap It.dv)) rfl rfl ?_
    refine .next ?_
    refine .block ?_
    refine TC.loop (S := Nat) (fun i => i ≤ xss.length) (fun i => xss.length - i) (fun i => [(0, .d (slT ildv 1 xss)), (6, .ow 1 ((xss.take (i)).flatten.length : Nat) 64), (25, .d (slT ildv 1 xss)), (26, .f (.v (.int .i64 ((xss.length : Nat) : Int)))), (27, .d (.v (.int .i64 ((i : Nat) : Int))))]) (fun i => [(1, .row 35 64 ((xss.take i).flatten.flatMap It.dv))]) (0) (Nat.zero_le _) ⟨⟨rfl, rfl⟩, ⟨rfl, rfl⟩, ⟨rfl, rfl⟩, ⟨rfl, rfl⟩, ⟨rfl, rfl⟩, trivial⟩ ⟨.inr rfl, trivial⟩ (fun i hI => ?_)
    refine .seq ?_
    refine .region ?_
    refine .step rfl (.bin rfl rfl rfl rfl) ?_
    refine .nil ?_
    refine .next ?_
    refine .seq ?_
    refine .cond rfl (fun h3 => ?_) (fun h3 => ?_)
    · skip
      have h : i < xss.length := by have q := of_decide_eq_true h3; (try dsimp only at q); omega
      have h2 := flat_take_len h
      have h3 := flat_take_le xss (i + 1)
      refine .skip ?_
      refine .next ?_
      refine .seq ?_
      refine .block ?_
      refine .seq ?_
      refine .region ?_
      refine .step rfl (.idx (xss[i]) rfl rfl rfl rfl et64 (fun _ => rfl) (Int.natCast_nonneg _) (get_nat h)) ?_
      refine .step rfl (.lde rfl rfl rfl rfl tk25) ?_
      refine .step rfl (.assign rfl rfl) ?_
      refine .nil ?_
      refine .next ?_
      refine .region ?_
      refine .step rfl (.move rfl rfl) ?_
      refine .step rfl (.move rfl rfl) ?_
      refine .step rfl (.append 2 rfl rfl rfl (it_flat _) rfl ap25 rfl rfl trivial (it_all _) (by omega) (by omega)) ?_
      refine .step rfl (.assign rfl rfl) ?_
      refine .nil ?_
      refine TE.blk ?_
      refine .next ?_
      refine .region ?_
      refine .step rfl (.binv (.int .i64 ((i + 1 : Nat) : Int)) rfl rfl rfl rfl (congrArg _ (by (try dsimp only); rw [IntKind.wrap_i64]; omega))) ?_
      refine .step rfl (.move rfl rfl) ?_
      refine .nil ?_
      refine TE.set 6 (.ow 2 ((xss.take (i + 1)).flatten.length : Nat) 64) rfl (by rw [flat_take_len h]) ?_
      refine TE.obj 2 (.row 35 64 ((xss.take (i + 1)).flatten.flatMap It.dv)) rfl (by rw [flat_take_succ h, List.flatMap_append]) ?_
      refine TE.setv 27 (.int .i64 ((i + 1 : Nat) : Int)) rfl (congrArg _ (by first | rfl | (dsimp only; first | done | rfl | omega))) ?_
      exact TE.round (swp 1 2) (swp_inj 1 2) (i + 1) (by omega) (by omega) ⟨⟨rfl, rfl⟩, ⟨rfl, rfl⟩, ⟨rfl, rfl⟩, ⟨rfl, rfl⟩, ⟨rfl, rfl⟩, trivial⟩ ⟨.inr rfl, trivial⟩
    · skip
      have h : ¬ (i < xss.length) := by have q := of_decide_eq_false h3; (try dsimp only at q); omega
      have hi : i = xss.length := by have : i ≤ xss.length := hI; omega
      refine .exit ?_
      refine TE.pass ?_
      refine TE.pass ?_
      refine TE.here ?_
      refine .next ?_
      refine .seq ?_
      refine .region ?_
      refine .step rfl (.move rfl rfl) ?_
      refine .step rfl (.assign rfl rfl) ?_
      refine .nil ?_
      refine .next ?_
      refine .ret ?_
      subst hi
      rw [List.take_length]
      exact TE.retof rfl rfl rfl (it_flat _) (by decide) (pl_flat pl_it _)

end Go.Proofs.Ythbcbfghfhecjaa
