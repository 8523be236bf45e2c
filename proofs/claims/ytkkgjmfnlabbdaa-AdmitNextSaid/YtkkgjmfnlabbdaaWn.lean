/-
  AdmitNext.
-/
import Derived.Test.YtkkgjmfnlabbdaaWj
namespace Go.Proofs.Ytkkgjmfnlabbdaa
set_option linter.unusedVariables false
set_option linter.unusedSimpArgs false
open Go.RowKit Pl

theorem cf8 : cfn Try.prog 8 = true := by kernel_rfl
theorem cf9 : cfn Try.prog 9 = true := by kernel_rfl
theorem ub4 : ubl Try.prog 4 = true := by kernel_rfl

set_option maxRecDepth 100000 in
set_option maxHeartbeats 1600000 in
theorem next_pf (l w : List UInt8) (k : UInt8) : PF Try.prog 7 [slT bdv 1 l, slT bdv 1 w, .v (.int .u8 k.toNat)] (.v (.bool true)) := by
  refine PF.enter (fn := Try.f7) Try.func7 rfl Try.ntmps7 rfl (fun w0 => ?_)
  refine .seq ?_
  refine .region ?_
  refine .step rfl (.assign rfl rfl) ?_
  refine .nil ?_
  refine .next ?_
  refine .seq ?_
  refine .seq ?_
  refine .region ?_
  refine .step rfl (.callf rfl cf8 rfl trivial (known_pf)) ?_
  refine .step rfl (.un rfl rfl rfl) ?_
  refine .nil ?_
  refine .next ?_
  refine .cond rfl (fun h1 => absurd h1 (by decide)) (fun h1 => ?_)
  refine .skip ?_
  refine .next ?_
  refine .seq ?_
  refine .seq ?_
  by_cases hla : 10 < l.length
  · skip
    refine .region ?_
    refine .step rfl (.move rfl rfl) ?_
    refine .step rfl (.len rfl rfl ⟨_, _, rfl⟩ is22) ?_
    refine .step rfl (.binv (.bool true) rfl rfl rfl rfl (congrArg Value.bool (decide_eq_true (by omega)))) ?_
    refine .step rfl (.move rfl rfl) ?_
    refine .no 20 rfl rfl rfl rfl rfl rfl rfl ?_
    refine .no 20 rfl rfl rfl rfl rfl rfl rfl ?_
    refine .no 20 rfl rfl rfl rfl rfl rfl rfl ?_
    refine .step rfl (.pick rfl rfl rfl) ?_
    refine .nil ?_
    refine .next ?_
    refine .cond rfl (fun h3 => ?_) (fun h3 => absurd h3 (by decide))
    refine .seq ?_
    refine .region ?_
    refine .step rfl (.assign rfl rfl) ?_
    refine .nil ?_
    refine .next ?_
    refine .ret ?_
    exact TE.retf rfl rfl rfl trivial
  · skip
    by_cases hwb : 8 < w.length
    · skip
      refine .region ?_
      refine .step rfl (.move rfl rfl) ?_
      refine .step rfl (.len rfl rfl ⟨_, _, rfl⟩ is22) ?_
      refine .step rfl (.binv (.bool false) rfl rfl rfl rfl (congrArg Value.bool (decide_eq_false (by omega)))) ?_
      refine .step rfl (.move rfl rfl) ?_
      refine .go 20 rfl rfl rfl rfl (.move rfl rfl) ?_
      refine .go 20 rfl rfl rfl rfl (.len rfl rfl ⟨_, _, rfl⟩ is22) ?_
      refine .go 20 rfl rfl rfl rfl (.binv (.bool true) rfl rfl rfl rfl (congrArg Value.bool (decide_eq_true (by omega)))) ?_
      refine .step rfl (.pick rfl rfl rfl) ?_
      refine .nil ?_
      refine .next ?_
      refine .cond rfl (fun h5 => ?_) (fun h5 => absurd h5 (by decide))
      refine .seq ?_
      refine .region ?_
      refine .step rfl (.assign rfl rfl) ?_
      refine .nil ?_
      refine .next ?_
      refine .ret ?_
      exact TE.retf rfl rfl rfl trivial
    · skip
      refine .region ?_
      refine .step rfl (.move rfl rfl) ?_
      refine .step rfl (.len rfl rfl ⟨_, _, rfl⟩ is22) ?_
      refine .step rfl (.binv (.bool false) rfl rfl rfl rfl (congrArg Value.bool (decide_eq_false (by omega)))) ?_
      refine .step rfl (.move rfl rfl) ?_
      refine .go 20 rfl rfl rfl rfl (.move rfl rfl) ?_
      refine .go 20 rfl rfl rfl rfl (.len rfl rfl ⟨_, _, rfl⟩ is22) ?_
      refine .go 20 rfl rfl rfl rfl (.binv (.bool false) rfl rfl rfl rfl (congrArg Value.bool (decide_eq_false (by omega)))) ?_
      refine .step rfl (.pick rfl rfl rfl) ?_
      refine .nil ?_
      refine .next ?_
      refine .cond rfl (fun h6 => absurd h6 (by decide)) (fun h6 => ?_)
      refine .skip ?_
      refine .next ?_
      refine .seq ?_
      refine .region ?_
      refine .step rfl (.move rfl rfl) ?_
      refine .step rfl (.move rfl rfl) ?_
      refine .step rfl (.callc rfl cf9 rfl (story_pc l w (by omega) (by omega))) ?_
      refine .step rfl (.move rfl rfl) ?_
      refine .step rfl (.extract rfl rfl rfl rfl) ?_
      refine .step rfl (.extract rfl rfl rfl rfl) ?_
      refine .step rfl (.assign rfl rfl) ?_
      refine .step rfl (.assign rfl rfl) ?_
      refine .nil ?_
      refine .next ?_
      refine .seq ?_
      refine .region ?_
      refine .step rfl (.move rfl rfl) ?_
      refine .step rfl (.callf rfl cf10 rfl ⟨trivial, trivial⟩ (name8_pf k)) ?_
      refine .step rfl (.assign rfl rfl) ?_
      refine .nil ?_
      refine .next ?_
      refine .seq ?_
      refine .region ?_
      refine .step rfl (.assign rfl rfl) ?_
      refine .nil ?_
      refine .next ?_
      refine .seq ?_
      refine .seq ?_
      refine .region ?_
      refine .step rfl (.assign rfl rfl) ?_
      refine .nil ?_
      refine .next ?_
      refine .block ?_
      refine TC.loop (S := Nat) (fun i => i ≤ l.length) (fun i => l.length - i) (fun i => [(0, .d (slT bdv 1 l)), (1, .d (slT bdv 1 w)), (2, .d (.v (.int .u8 k.toNat))), (7, .d (slT Kn.dv 4 (storyK 0 [] l))), (8, .d (slT Pe.dv 9 (storyW (storyK 0 [] l) 0 [] w))), (9, .f (.v (strV (nameL k.toNat)))), (10, .f (.v (.int .i64 ((1 + cntN (l.take i) (nameL k.toNat) : Nat) : Int)))), (11, .f (.v (.int .i64 i)))]) (fun i => []) (0) (Nat.zero_le _) ⟨⟨rfl, rfl⟩, ⟨rfl, rfl⟩, ⟨rfl, rfl⟩, ⟨rfl, rfl⟩, ⟨rfl, rfl⟩, ⟨rfl, rfl⟩, ⟨rfl, rfl⟩, ⟨rfl, rfl⟩, trivial⟩ trivial (fun i hI => ?_)
      refine .seq ?_
      refine .seq ?_
      refine .region ?_
      refine .step rfl (.move rfl rfl) ?_
      refine .step rfl (.move rfl rfl) ?_
      refine .step rfl (.len rfl rfl ⟨_, _, rfl⟩ is22) ?_
      refine .step rfl (.bin rfl rfl rfl rfl) ?_
      refine .nil ?_
      refine .next ?_
      refine .cond rfl (fun h7 => ?_) (fun h7 => ?_)
      · skip
        have hi : i < l.length := by have q : (i : Int) < (l.length : Int) := of_decide_eq_true h7; omega
        have hc := cnt_next hi k
        have hcl := cntN_le (l.take i) (nameL k.toNat)
        have htl : (l.take i).length ≤ 10 := by simp; omega
        refine .skip ?_
        refine .next ?_
        refine .seq ?_
        refine .block ?_
        refine .seq ?_
        refine .region ?_
        refine .step rfl (.move rfl rfl) ?_
        refine .step rfl (.move rfl rfl) ?_
        refine .step rfl (.idx (l[i]) rfl rfl rfl rfl et22 (fun _ => rfl) (Int.natCast_nonneg i) (get_nat hi)) ?_
        refine .step rfl (.lde rfl rfl rfl rfl tk5) ?_
        refine .step rfl (.rem ((l[i].toNat : Int) % 6) rfl rfl rfl (by decide) (Int.tmod_eq_emod_of_nonneg (by omega))) ?_
        refine .step rfl (.move rfl rfl) ?_
        refine .step rfl (.rem ((k.toNat : Int) % 6) rfl rfl rfl (by decide) (Int.tmod_eq_emod_of_nonneg (by omega))) ?_
        refine .step rfl (.bin rfl rfl rfl rfl) ?_
        refine .nil ?_
        refine .next ?_
        refine .cond rfl (fun h8 => ?_) (fun h8 => ?_)
        · skip
          have hs : (l[i].toNat : Int) % 6 = (k.toNat : Int) % 6 := of_decide_eq_true h8
          rw [if_pos hs] at hc
          refine .region ?_
          refine .step rfl (.move rfl rfl) ?_
          refine .step rfl (.binv (.int .i64 ((1 + cntN (l.take (i + 1)) (nameL k.toNat) : Nat) : Int)) rfl rfl rfl rfl (congrArg _ (by rw [IntKind.wrap_i64, hc]; omega))) ?_
          refine .step rfl (.assign rfl rfl) ?_
          refine .nil ?_
          refine TE.blk ?_
          refine .next ?_
          refine .region ?_
          refine .step rfl (.move rfl rfl) ?_
          refine .step rfl (.binv (.int .i64 ((i + 1 : Nat) : Int)) rfl rfl rfl rfl (congrArg _ (wrap_succ hi (by omega)))) ?_
          refine .step rfl (.assign rfl rfl) ?_
          refine .nil ?_
          exact TE.round id (fun _ _ e => e) (i + 1) hi (by omega) ⟨⟨rfl, rfl⟩, ⟨rfl, rfl⟩, ⟨rfl, rfl⟩, ⟨rfl, rfl⟩, ⟨rfl, rfl⟩, ⟨rfl, rfl⟩, ⟨rfl, rfl⟩, ⟨rfl, rfl⟩, trivial⟩ trivial
        · skip
          have hs : ¬ ((l[i].toNat : Int) % 6 = (k.toNat : Int) % 6) := of_decide_eq_false h8
          rw [if_neg hs] at hc
          refine .skip ?_
          refine TE.blk ?_
          refine .next ?_
          refine .region ?_
          refine .step rfl (.move rfl rfl) ?_
          refine .step rfl (.binv (.int .i64 ((i + 1 : Nat) : Int)) rfl rfl rfl rfl (congrArg _ (wrap_succ hi (by omega)))) ?_
          refine .step rfl (.assign rfl rfl) ?_
          refine .nil ?_
          refine TE.set 10 (.f (.v (.int .i64 ((1 + cntN (l.take (i + 1)) (nameL k.toNat) : Nat) : Int)))) rfl (by rw [hc]; rfl) ?_
          exact TE.round id (fun _ _ e => e) (i + 1) hi (by omega) ⟨⟨rfl, rfl⟩, ⟨rfl, rfl⟩, ⟨rfl, rfl⟩, ⟨rfl, rfl⟩, ⟨rfl, rfl⟩, ⟨rfl, rfl⟩, ⟨rfl, rfl⟩, ⟨rfl, rfl⟩, trivial⟩ trivial
      · skip
        have hi : i = l.length := by have q : ¬ ((i : Int) < (l.length : Int)) := of_decide_eq_false h7; omega
        have htk : l.take i = l := by rw [hi, List.take_length]
        rw [htk]
        refine .exit ?_
        refine TE.pass ?_
        refine TE.pass ?_
        refine TE.here ?_
        refine .next ?_
        refine .seq ?_
        refine .seq ?_
        refine .region ?_
        refine .step rfl (.assign rfl rfl) ?_
        refine .nil ?_
        refine .next ?_
        refine .block ?_
        refine TC.loop (S := Nat) (fun j => j ≤ w.length) (fun j => w.length - j) (fun j => [(0, .d (slT bdv 1 l)), (1, .d (slT bdv 1 w)), (2, .d (.v (.int .u8 k.toNat))), (7, .d (slT Kn.dv 4 (storyK 0 [] l))), (8, .d (slT Pe.dv 9 (storyW (storyK 0 [] l) 0 [] w))), (9, .f (.v (strV (nameL k.toNat)))), (10, .f (.v (.int .i64 ((1 + cntN l (nameL k.toNat) + cntN (w.take j) (nameL k.toNat) : Nat) : Int)))), (12, .f (.v (.int .i64 j)))]) (fun j => []) (0) (Nat.zero_le _) ⟨⟨rfl, rfl⟩, ⟨rfl, rfl⟩, ⟨rfl, rfl⟩, ⟨rfl, rfl⟩, ⟨rfl, rfl⟩, ⟨rfl, rfl⟩, ⟨rfl, rfl⟩, ⟨rfl, rfl⟩, trivial⟩ trivial (fun j hI => ?_)
        refine .seq ?_
        refine .seq ?_
        refine .region ?_
        refine .step rfl (.move rfl rfl) ?_
        refine .step rfl (.move rfl rfl) ?_
        refine .step rfl (.len rfl rfl ⟨_, _, rfl⟩ is22) ?_
        refine .step rfl (.bin rfl rfl rfl rfl) ?_
        refine .nil ?_
        refine .next ?_
        refine .cond rfl (fun h9 => ?_) (fun h9 => ?_)
        · skip
          have hj : j < w.length := by have q : (j : Int) < (w.length : Int) := of_decide_eq_true h9; omega
          have hc := cnt_next hj k
          have hcl := cntN_le (w.take j) (nameL k.toNat)
          have htl : (w.take j).length ≤ 10 := by simp; omega
          have hcl2 := cntN_le l (nameL k.toNat)
          refine .skip ?_
          refine .next ?_
          refine .seq ?_
          refine .block ?_
          refine .seq ?_
          refine .region ?_
          refine .step rfl (.move rfl rfl) ?_
          refine .step rfl (.move rfl rfl) ?_
          refine .step rfl (.idx (w[j]) rfl rfl rfl rfl et22 (fun _ => rfl) (Int.natCast_nonneg j) (get_nat hj)) ?_
          refine .step rfl (.lde rfl rfl rfl rfl tk5) ?_
          refine .step rfl (.rem ((w[j].toNat : Int) % 6) rfl rfl rfl (by decide) (Int.tmod_eq_emod_of_nonneg (by omega))) ?_
          refine .step rfl (.move rfl rfl) ?_
          refine .step rfl (.rem ((k.toNat : Int) % 6) rfl rfl rfl (by decide) (Int.tmod_eq_emod_of_nonneg (by omega))) ?_
          refine .step rfl (.bin rfl rfl rfl rfl) ?_
          refine .nil ?_
          refine .next ?_
          refine .cond rfl (fun h10 => ?_) (fun h10 => ?_)
          · skip
            have hs : (w[j].toNat : Int) % 6 = (k.toNat : Int) % 6 := of_decide_eq_true h10
            rw [if_pos hs] at hc
            refine .region ?_
            refine .step rfl (.move rfl rfl) ?_
            refine .step rfl (.binv (.int .i64 ((1 + cntN l (nameL k.toNat) + cntN (w.take (j + 1)) (nameL k.toNat) : Nat) : Int)) rfl rfl rfl rfl (congrArg _ (by rw [IntKind.wrap_i64, hc]; omega))) ?_
            refine .step rfl (.assign rfl rfl) ?_
            refine .nil ?_
            refine TE.blk ?_
            refine .next ?_
            refine .region ?_
            refine .step rfl (.move rfl rfl) ?_
            refine .step rfl (.binv (.int .i64 ((j + 1 : Nat) : Int)) rfl rfl rfl rfl (congrArg _ (wrap_succ hj (by omega)))) ?_
            refine .step rfl (.assign rfl rfl) ?_
            refine .nil ?_
            exact TE.round id (fun _ _ e => e) (j + 1) hj (by omega) ⟨⟨rfl, rfl⟩, ⟨rfl, rfl⟩, ⟨rfl, rfl⟩, ⟨rfl, rfl⟩, ⟨rfl, rfl⟩, ⟨rfl, rfl⟩, ⟨rfl, rfl⟩, ⟨rfl, rfl⟩, trivial⟩ trivial
          · skip
            have hs : ¬ ((w[j].toNat : Int) % 6 = (k.toNat : Int) % 6) := of_decide_eq_false h10
            rw [if_neg hs] at hc
            refine .skip ?_
            refine TE.blk ?_
            refine .next ?_
            refine .region ?_
            refine .step rfl (.move rfl rfl) ?_
            refine .step rfl (.binv (.int .i64 ((j + 1 : Nat) : Int)) rfl rfl rfl rfl (congrArg _ (wrap_succ hj (by omega)))) ?_
            refine .step rfl (.assign rfl rfl) ?_
            refine .nil ?_
            refine TE.set 10 (.f (.v (.int .i64 ((1 + cntN l (nameL k.toNat) + cntN (w.take (j + 1)) (nameL k.toNat) : Nat) : Int)))) rfl (by rw [hc]; rfl) ?_
            exact TE.round id (fun _ _ e => e) (j + 1) hj (by omega) ⟨⟨rfl, rfl⟩, ⟨rfl, rfl⟩, ⟨rfl, rfl⟩, ⟨rfl, rfl⟩, ⟨rfl, rfl⟩, ⟨rfl, rfl⟩, ⟨rfl, rfl⟩, ⟨rfl, rfl⟩, trivial⟩ trivial
        · skip
          have hj : j = w.length := by have q : ¬ ((j : Int) < (w.length : Int)) := of_decide_eq_false h9; omega
          have htk : w.take j = w := by rw [hj, List.take_length]
          rw [htk]
          have hld : lastN l w (nameL k.toNat) = cntN l (nameL k.toNat) + cntN w (nameL k.toNat) := rfl
          refine .exit ?_
          refine TE.pass ?_
          refine TE.pass ?_
          refine TE.here ?_
          refine .next ?_
          refine .seq ?_
          refine .region ?_
          refine .step rfl (.move rfl rfl) ?_
          refine .step rfl (.move rfl rfl) ?_
          refine .step rfl (.move rfl rfl) ?_
          refine .step rfl (.callf rfl cf15 rfl ⟨trivial, trivial, trivial, trivial⟩ (nx_pf (Sto.of l w (by omega) (by omega)) _)) ?_
          refine .step rfl (.move rfl rfl) ?_
          refine .step rfl (.extract rfl rfl rfl rfl) ?_
          refine .step rfl (.extract rfl rfl rfl rfl) ?_
          refine .step rfl (.assign rfl rfl) ?_
          refine .step rfl (.assign rfl rfl) ?_
          refine .nil ?_
          refine .next ?_
          refine .seq ?_
          by_cases hlast : lastN l w (nameL k.toNat) = 0
          · skip
            have hlk : lastK l w (nameL k.toNat) = 0 := by unfold lastK; rw [if_pos hlast]
            have hle := (Sto.of l w (by omega) (by omega)).le (nameL k.toNat)
            refine .region ?_
            refine .step rfl (.move rfl rfl) ?_
            refine .step rfl (.move rfl rfl) ?_
            refine .step rfl (.binv (.bool true) rfl rfl rfl rfl (congrArg Value.bool (decide_eq_true (by omega)))) ?_
            refine .step rfl (.move rfl rfl) ?_
            refine .go 75 rfl rfl rfl rfl (.move rfl rfl) ?_
            refine .go 75 rfl rfl rfl rfl (.binv (.bool true) rfl rfl rfl rfl (by rw [hlk]; rfl)) ?_
            refine .go 75 rfl rfl rfl rfl (.move rfl rfl) ?_
            refine .go 75 rfl rfl rfl rfl (.binv (.bool true) rfl rfl rfl rfl (congrArg Value.bool (decide_eq_true (by omega)))) ?_
            refine .go 75 rfl rfl rfl rfl (.eqb true rfl rfl rfl ub4 rfl) ?_
            refine .step rfl (.pick rfl rfl rfl) ?_
            refine .step rfl (.move rfl rfl) ?_
            refine .go 82 rfl rfl rfl rfl (.move rfl rfl) ?_
            refine .go 82 rfl rfl rfl rfl (.binv (.bool true) rfl rfl rfl rfl (congrArg Value.bool (decide_eq_true (by omega)))) ?_
            refine .go 82 rfl rfl rfl rfl (.move rfl rfl) ?_
            refine .no 85 rfl rfl rfl rfl rfl rfl rfl ?_
            refine .no 85 rfl rfl rfl rfl rfl rfl rfl ?_
            refine .no 85 rfl rfl rfl rfl rfl rfl rfl ?_
            refine .no 85 rfl rfl rfl rfl rfl rfl rfl ?_
            refine .no 85 rfl rfl rfl rfl rfl rfl rfl ?_
            refine .no 85 rfl rfl rfl rfl rfl rfl rfl ?_
            refine .go 82 rfl rfl rfl rfl (.pick rfl rfl rfl) ?_
            refine .step rfl (.pick rfl rfl rfl) ?_
            refine .step rfl (.assign rfl rfl) ?_
            refine .nil ?_
            refine .next ?_
            refine .ret ?_
            exact TE.retf rfl rfl rfl trivial
          · skip
            have hlk : lastK l w (nameL k.toNat) = keyF (nameL k.toNat) (lastN l w (nameL k.toNat) : Int) false := by unfold lastK; rw [if_neg hlast]
            have hkp := keyF_pos (nameL k.toNat) (lastN l w (nameL k.toNat) : Int) false
            have hle := (Sto.of l w (by omega) (by omega)).le (nameL k.toNat)
            refine .region ?_
            refine .step rfl (.move rfl rfl) ?_
            refine .step rfl (.move rfl rfl) ?_
            refine .step rfl (.binv (.bool true) rfl rfl rfl rfl (congrArg Value.bool (decide_eq_true (by omega)))) ?_
            refine .step rfl (.move rfl rfl) ?_
            refine .go 75 rfl rfl rfl rfl (.move rfl rfl) ?_
            refine .go 75 rfl rfl rfl rfl (.binv (.bool false) rfl rfl rfl rfl (congrArg Value.bool (decide_eq_false (by rw [hlk]; omega)))) ?_
            refine .go 75 rfl rfl rfl rfl (.move rfl rfl) ?_
            refine .go 75 rfl rfl rfl rfl (.binv (.bool false) rfl rfl rfl rfl (congrArg Value.bool (decide_eq_false (by omega)))) ?_
            refine .go 75 rfl rfl rfl rfl (.eqb true rfl rfl rfl ub4 rfl) ?_
            refine .step rfl (.pick rfl rfl rfl) ?_
            refine .step rfl (.move rfl rfl) ?_
            refine .go 82 rfl rfl rfl rfl (.move rfl rfl) ?_
            refine .go 82 rfl rfl rfl rfl (.binv (.bool false) rfl rfl rfl rfl (congrArg Value.bool (decide_eq_false (by omega)))) ?_
            refine .go 82 rfl rfl rfl rfl (.move rfl rfl) ?_
            refine .go 85 rfl rfl rfl rfl (.move rfl rfl) ?_
            refine .go 85 rfl rfl rfl rfl (.move rfl rfl) ?_
            refine .go 85 rfl rfl rfl rfl (.move rfl rfl) ?_
            refine .go 85 rfl rfl rfl rfl (.binv (.int .i64 (lastN l w (nameL k.toNat) : Int)) rfl rfl rfl rfl (congrArg _ (by rw [IntKind.wrap_i64]; omega))) ?_
            refine .go 85 rfl rfl rfl rfl (.callf rfl cf16 rfl ⟨trivial, trivial, trivial, trivial⟩ (key_pf (nameL k.toNat) _ false (by have := (nameL_len (k.toNat)).2; omega))) ?_
            refine .go 85 rfl rfl rfl rfl (.binv (.bool true) rfl rfl rfl rfl (by rw [hlk]; simp)) ?_
            refine .go 82 rfl rfl rfl rfl (.pick rfl rfl rfl) ?_
            refine .step rfl (.pick rfl rfl rfl) ?_
            refine .step rfl (.assign rfl rfl) ?_
            refine .nil ?_
            refine .next ?_
            refine .ret ?_
            exact TE.retf rfl rfl rfl trivial

theorem admitNext_walk (v0 : Value) (a0 : List UInt8) (v1 : Value) (a1 : List UInt8) (a2 : Int) (W : World) (w0 : Rd W v0 a0) (w1 : Rd W v1 a1) (w2 : (Lit.int .u8 a2).wf = true) : Calls Try.prog 7 #[v0, v1, .int .u8 a2] W fun e W' => e = .returned (.bool true) ∧ Below W.heap.size W W' := by
  obtain ⟨k2, rfl⟩ := u8_of w2
  exact pf_bool (next_pf a0 a1 k2) (repl_cons (rd_rep w0) (repl_cons (rd_rep w1) (repl_cons (rep_v _) repl_nil)))

end Go.Proofs.Ytkkgjmfnlabbdaa
