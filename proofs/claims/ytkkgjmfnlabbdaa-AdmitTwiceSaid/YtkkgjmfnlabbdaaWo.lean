/-
  AdmitTwice.
-/
import Derived.Test.YtkkgjmfnlabbdaaWj
namespace Go.Proofs.Ytkkgjmfnlabbdaa
set_option linter.unusedVariables false
set_option linter.unusedSimpArgs false
open Go.RowKit Pl

theorem cf8 : cfn Try.prog 8 = true := by kernel_rfl
theorem cf9 : cfn Try.prog 9 = true := by kernel_rfl
theorem sp25 : stp Try.prog 25 = some ([.int .u64 0, .int .u64 0], [(0, 1), (1, 1)]) := by kernel_rfl
theorem ub4 : ubl Try.prog 4 = true := by kernel_rfl
theorem uk23 : ukd Try.prog 23 = some .u64 := by kernel_rfl

theorem same_eqb (a b c : Int) : (decide ((same a b c).2 = 26) == !decide (a = b)) = true := by
  unfold same
  by_cases h : a = b
  · rw [if_pos h, decide_eq_true h]; rfl
  · rw [if_neg h, decide_eq_false h]; rfl

set_option maxRecDepth 100000 in
set_option maxHeartbeats 1600000 in
theorem twice_pf (l w : List UInt8) (k : UInt8) (how : UInt8) : PF Try.prog 5 [slT bdv 1 l, slT bdv 1 w, .v (.int .u8 k.toNat), .v (.int .u8 how.toNat)] (.v (.bool true)) := by
  refine PF.enter (fn := Try.f5) Try.func5 rfl Try.ntmps5 rfl (fun w0 => ?_)
  refine .seq ?_
  refine .region ?_
  refine .step rfl (.assign rfl rfl) ?_
  refine .nil ?_
  refine .next ?_
  refine .seq ?_
  refine .seq ?_
  refine .region ?_
  refine .step rfl (.callf rfl cf8 rfl trivial (known_pf)) ?_
  refine .step rfl (.un rfl rfl rfl) ?_
  refine .nil ?_
  refine .next ?_
  refine .cond rfl (fun h1 => absurd h1 (by decide)) (fun h1 => ?_)
  refine .skip ?_
  refine .next ?_
  refine .seq ?_
  refine .seq ?_
  by_cases hla : 10 < l.length
  · skip
    refine .region ?_
    refine .step rfl (.move rfl rfl) ?_
    refine .step rfl (.len rfl rfl ⟨_, _, rfl⟩ is22) ?_
    refine .step rfl (.binv (.bool true) rfl rfl rfl rfl (congrArg Value.bool (decide_eq_true (by omega)))) ?_
    refine .step rfl (.move rfl rfl) ?_
    refine .no 24 rfl rfl rfl rfl rfl rfl rfl ?_
    refine .no 24 rfl rfl rfl rfl rfl rfl rfl ?_
    refine .no 24 rfl rfl rfl rfl rfl rfl rfl ?_
    refine .step rfl (.pick rfl rfl rfl) ?_
    refine .step rfl (.move rfl rfl) ?_
    refine .no 29 rfl rfl rfl rfl rfl rfl rfl ?_
    refine .no 29 rfl rfl rfl rfl rfl rfl rfl ?_
    refine .no 29 rfl rfl rfl rfl rfl rfl rfl ?_
    refine .no 29 rfl rfl rfl rfl rfl rfl rfl ?_
    refine .no 29 rfl rfl rfl rfl rfl rfl rfl ?_
    refine .no 29 rfl rfl rfl rfl rfl rfl rfl ?_
    refine .step rfl (.pick rfl rfl rfl) ?_
    refine .nil ?_
    refine .next ?_
    refine .cond rfl (fun h3 => ?_) (fun h3 => absurd h3 (by decide))
    refine .seq ?_
    refine .region ?_
    refine .step rfl (.assign rfl rfl) ?_
    refine .nil ?_
    refine .next ?_
    refine .ret ?_
    exact TE.retf rfl rfl rfl trivial
  · skip
    by_cases hwb : 8 < w.length
    · skip
      refine .region ?_
      refine .step rfl (.move rfl rfl) ?_
      refine .step rfl (.len rfl rfl ⟨_, _, rfl⟩ is22) ?_
      refine .step rfl (.binv (.bool false) rfl rfl rfl rfl (congrArg Value.bool (decide_eq_false (by omega)))) ?_
      refine .step rfl (.move rfl rfl) ?_
      refine .go 24 rfl rfl rfl rfl (.move rfl rfl) ?_
      refine .go 24 rfl rfl rfl rfl (.len rfl rfl ⟨_, _, rfl⟩ is22) ?_
      refine .go 24 rfl rfl rfl rfl (.binv (.bool true) rfl rfl rfl rfl (congrArg Value.bool (decide_eq_true (by omega)))) ?_
      refine .step rfl (.pick rfl rfl rfl) ?_
      refine .step rfl (.move rfl rfl) ?_
      refine .no 29 rfl rfl rfl rfl rfl rfl rfl ?_
      refine .no 29 rfl rfl rfl rfl rfl rfl rfl ?_
      refine .no 29 rfl rfl rfl rfl rfl rfl rfl ?_
      refine .no 29 rfl rfl rfl rfl rfl rfl rfl ?_
      refine .no 29 rfl rfl rfl rfl rfl rfl rfl ?_
      refine .no 29 rfl rfl rfl rfl rfl rfl rfl ?_
      refine .step rfl (.pick rfl rfl rfl) ?_
      refine .nil ?_
      refine .next ?_
      refine .cond rfl (fun h5 => ?_) (fun h5 => absurd h5 (by decide))
      refine .seq ?_
      refine .region ?_
      refine .step rfl (.assign rfl rfl) ?_
      refine .nil ?_
      refine .next ?_
      refine .ret ?_
      exact TE.retf rfl rfl rfl trivial
    · skip
      by_cases hz : l.length + w.length = 0
      · skip
        refine .region ?_
        refine .step rfl (.move rfl rfl) ?_
        refine .step rfl (.len rfl rfl ⟨_, _, rfl⟩ is22) ?_
        refine .step rfl (.binv (.bool false) rfl rfl rfl rfl (congrArg Value.bool (decide_eq_false (by omega)))) ?_
        refine .step rfl (.move rfl rfl) ?_
        refine .go 24 rfl rfl rfl rfl (.move rfl rfl) ?_
        refine .go 24 rfl rfl rfl rfl (.len rfl rfl ⟨_, _, rfl⟩ is22) ?_
        refine .go 24 rfl rfl rfl rfl (.binv (.bool false) rfl rfl rfl rfl (congrArg Value.bool (decide_eq_false (by omega)))) ?_
        refine .step rfl (.pick rfl rfl rfl) ?_
        refine .step rfl (.move rfl rfl) ?_
        refine .go 29 rfl rfl rfl rfl (.move rfl rfl) ?_
        refine .go 29 rfl rfl rfl rfl (.len rfl rfl ⟨_, _, rfl⟩ is22) ?_
        refine .go 29 rfl rfl rfl rfl (.move rfl rfl) ?_
        refine .go 29 rfl rfl rfl rfl (.len rfl rfl ⟨_, _, rfl⟩ is22) ?_
        refine .go 29 rfl rfl rfl rfl (.binv (.int .i64 ((l.length + w.length : Nat) : Int)) rfl rfl rfl rfl (congrArg _ (by rw [IntKind.wrap_i64]; omega))) ?_
        refine .go 29 rfl rfl rfl rfl (.binv (.bool true) rfl rfl rfl rfl (congrArg Value.bool (decide_eq_true (by omega)))) ?_
        refine .step rfl (.pick rfl rfl rfl) ?_
        refine .nil ?_
        refine .next ?_
        refine .cond rfl (fun h7 => ?_) (fun h7 => absurd h7 (by decide))
        refine .seq ?_
        refine .region ?_
        refine .step rfl (.assign rfl rfl) ?_
        refine .nil ?_
        refine .next ?_
        refine .ret ?_
        exact TE.retf rfl rfl rfl trivial
      · skip
        refine .region ?_
        refine .step rfl (.move rfl rfl) ?_
        refine .step rfl (.len rfl rfl ⟨_, _, rfl⟩ is22) ?_
        refine .step rfl (.binv (.bool false) rfl rfl rfl rfl (congrArg Value.bool (decide_eq_false (by omega)))) ?_
        refine .step rfl (.move rfl rfl) ?_
        refine .go 24 rfl rfl rfl rfl (.move rfl rfl) ?_
        refine .go 24 rfl rfl rfl rfl (.len rfl rfl ⟨_, _, rfl⟩ is22) ?_
        refine .go 24 rfl rfl rfl rfl (.binv (.bool false) rfl rfl rfl rfl (congrArg Value.bool (decide_eq_false (by omega)))) ?_
        refine .step rfl (.pick rfl rfl rfl) ?_
        refine .step rfl (.move rfl rfl) ?_
        refine .go 29 rfl rfl rfl rfl (.move rfl rfl) ?_
        refine .go 29 rfl rfl rfl rfl (.len rfl rfl ⟨_, _, rfl⟩ is22) ?_
        refine .go 29 rfl rfl rfl rfl (.move rfl rfl) ?_
        refine .go 29 rfl rfl rfl rfl (.len rfl rfl ⟨_, _, rfl⟩ is22) ?_
        refine .go 29 rfl rfl rfl rfl (.binv (.int .i64 ((l.length + w.length : Nat) : Int)) rfl rfl rfl rfl (congrArg _ (by rw [IntKind.wrap_i64]; omega))) ?_
        refine .go 29 rfl rfl rfl rfl (.binv (.bool false) rfl rfl rfl rfl (congrArg Value.bool (decide_eq_false (by omega)))) ?_
        refine .step rfl (.pick rfl rfl rfl) ?_
        refine .nil ?_
        refine .next ?_
        refine .cond rfl (fun h8 => absurd h8 (by decide)) (fun h8 => ?_)
        refine .skip ?_
        refine .next ?_
        refine .seq ?_
        refine .region ?_
        refine .step rfl (.move rfl rfl) ?_
        refine .step rfl (.move rfl rfl) ?_
        refine .step rfl (.callc rfl cf9 rfl (story_pc l w (by omega) (by omega))) ?_
        refine .step rfl (.move rfl rfl) ?_
        refine .step rfl (.extract rfl rfl rfl rfl) ?_
        refine .step rfl (.extract rfl rfl rfl rfl) ?_
        refine .step rfl (.assign rfl rfl) ?_
        refine .step rfl (.assign rfl rfl) ?_
        refine .nil ?_
        refine .next ?_
        refine .seq ?_
        have hlx := (Sto.of l w (by omega) (by omega)).dir.len
        have hlw := (Sto.of l w (by omega) (by omega)).wait.len
        obtain ⟨i, hi⟩ : ∃ i, i = k.toNat % ((storyK 0 [] l).length + (storyW (storyK 0 [] l) 0 [] w).length) := ⟨_, rfl⟩
        have hi2 : i < (storyK 0 [] l).length + (storyW (storyK 0 [] l) 0 [] w).length := by rw [hi]; exact Nat.mod_lt _ (by omega)
        refine .region ?_
        refine .step rfl (.move rfl rfl) ?_
        refine .step rfl (.conviv ((k.toNat : Int)) rfl rfl uk5 uk3 (by have := UInt8.toNat_lt k; rw [IntKind.wrap_i64]; omega)) ?_
        refine .step rfl (.move rfl rfl) ?_
        refine .step rfl (.len rfl rfl ⟨_, _, rfl⟩ is29) ?_
        refine .step rfl (.move rfl rfl) ?_
        refine .step rfl (.len rfl rfl ⟨_, _, rfl⟩ is30) ?_
        refine .step rfl (.binv (.int .i64 (((storyK 0 [] l).length + (storyW (storyK 0 [] l) 0 [] w).length : Nat) : Int)) rfl rfl rfl rfl (congrArg _ (by rw [IntKind.wrap_i64]; omega))) ?_
        refine .step rfl (.rem ((i : Int)) rfl rfl rfl (by omega) (by rw [hi, Int.tmod_eq_emod_of_nonneg (by omega)]; rfl)) ?_
        refine .step rfl (.assign rfl rfl) ?_
        refine .nil ?_
        refine .next ?_
        refine .seq ?_
        refine .region ?_
        refine .step rfl (.alloc 1 rfl rfl zc48 rfl) ?_
        refine .nil ?_
        refine .next ?_
        refine .seq ?_
        refine .region ?_
        refine .step rfl (.assign rfl rfl) ?_
        refine .nil ?_
        refine .next ?_
        refine .seq ?_
        refine .seq ?_
        by_cases hix : i < (storyK 0 [] l).length
        · skip
          have hm : (storyK 0 [] l)[i] ∈ (storyK 0 [] l) := List.getElem_mem hix
          have hM := (Sto.of l w (by omega) (by omega)).dir.mem _ hm
          have hkk : (storyK 0 [] l)[i].key = keyF (storyK 0 [] l)[i].nm (storyK 0 [] l)[i].ver false := hM.2.2.1
          have hv0 : 1 ≤ (storyK 0 [] l)[i].ver := hM.1
          have hv1 : (storyK 0 [] l)[i].ver ≤ 1000 := by have := hM.2.1; omega
          have hn0 : 1 ≤ (storyK 0 [] l)[i].nm.length := hM.2.2.2.2.1
          have hn1 : (storyK 0 [] l)[i].nm.length ≤ 32 := hM.2.2.2.2.2
          have hk0 : 1 ≤ (storyK 0 [] l)[i].key := by rw [hkk]; exact keyF_pos _ _ _
          have hk1 : (storyK 0 [] l)[i].key < 2305843009213693951 := by rw [hkk]; exact keyF_lt _ _ _
          have hh := UInt8.toNat_lt how
          have hr1 : rightU ⟨(storyK 0 [] l)[i].nm, (storyK 0 [] l)[i].ver, (storyK 0 [] l)[i].key, (how.toNat : Int) % 2, (how.toNat : Int), 0⟩ = true := rightU_of hn0 hn1 hv0 (Int.le_trans hv1 (by decide)) hk0 hk1 (by show (how.toNat : Int) % 2 = 0 ∨ (how.toNat : Int) % 2 = 1; omega)
          have hr2 : rightU ⟨(storyK 0 [] l)[i].nm, (storyK 0 [] l)[i].ver, (storyK 0 [] l)[i].key % 5 + 1, 0, 0, 0⟩ = true := rightU_of hn0 hn1 hv0 (Int.le_trans hv1 (by decide)) (by show 1 ≤ (storyK 0 [] l)[i].key % 5 + 1; omega) (by show (storyK 0 [] l)[i].key % 5 + 1 < 2305843009213693951; omega) (.inl rfl)
          have ho1 : Up.ok ⟨(storyK 0 [] l)[i].nm, (storyK 0 [] l)[i].ver, (storyK 0 [] l)[i].key, (how.toNat : Int) % 2, (how.toNat : Int), 0⟩ := ⟨by show (storyK 0 [] l)[i].nm.length ≤ 1048576; omega, ⟨by show _ ≤ (storyK 0 [] l)[i].ver; omega, by show (storyK 0 [] l)[i].ver < _; omega⟩, ⟨by show 0 ≤ (storyK 0 [] l)[i].key; omega, by show (storyK 0 [] l)[i].key < _; omega⟩, ⟨by show _ ≤ (how.toNat : Int) % 2; omega, by show (how.toNat : Int) % 2 < _; omega⟩, ⟨by show 0 ≤ (how.toNat : Int); omega, by show (how.toNat : Int) < _; omega⟩, ⟨by show (0 : Int) ≤ 0; decide, by show (0 : Int) < 18446744073709551616; decide⟩⟩
          have ho2 : Up.ok ⟨(storyK 0 [] l)[i].nm, (storyK 0 [] l)[i].ver, (storyK 0 [] l)[i].key % 5 + 1, 0, 0, 0⟩ := ⟨by show (storyK 0 [] l)[i].nm.length ≤ 1048576; omega, ⟨by show _ ≤ (storyK 0 [] l)[i].ver; omega, by show (storyK 0 [] l)[i].ver < _; omega⟩, ⟨by show 0 ≤ (storyK 0 [] l)[i].key % 5 + 1; omega, by show (storyK 0 [] l)[i].key % 5 + 1 < _; omega⟩, ⟨by show (-9223372036854775808 : Int) ≤ 0; decide, by show (0 : Int) < 9223372036854775808; decide⟩, ⟨by show (0 : Int) ≤ 0; decide, by show (0 : Int) < 18446744073709551616; decide⟩, ⟨by show (0 : Int) ≤ 0; decide, by show (0 : Int) < 18446744073709551616; decide⟩⟩
          refine .region ?_
          refine .step rfl (.move rfl rfl) ?_
          refine .step rfl (.move rfl rfl) ?_
          refine .step rfl (.len rfl rfl ⟨_, _, rfl⟩ is29) ?_
          refine .step rfl (.binv (.bool true) rfl rfl rfl rfl (congrArg Value.bool (decide_eq_true (by omega)))) ?_
          refine .nil ?_
          refine .next ?_
          refine .cond rfl (fun h10 => ?_) (fun h10 => absurd h10 (by decide))
          refine .region ?_
          refine .step rfl (.move rfl rfl) ?_
          refine .step rfl (.move rfl rfl) ?_
          refine .step rfl (.idx ((storyK 0 [] l)[i]) rfl rfl rfl rfl et29 (fun _ => rfl) (Int.natCast_nonneg i) (get_nat hix)) ?_
          refine .step rfl (.fielde rfl rfl rfl fo50_0) ?_
          refine .step rfl (.ldem rfl rfl rfl rfl rfl tk48) ?_
          refine .step rfl (.store rfl rfl rfl sz48 rfl rfl) ?_
          refine .nil ?_
          refine .next ?_
          refine .seq ?_
          refine .region ?_
          refine .step rfl (.move rfl rfl) ?_
          refine .step rfl (.move rfl rfl) ?_
          refine .step rfl (.fieldp rfl rfl rfl rfl fo48_0) ?_
          refine .step rfl (.ldp rfl rfl rfl rfl rfl tk9) ?_
          refine .step rfl (.fieldp rfl rfl rfl rfl fo48_1) ?_
          refine .step rfl (.ldp rfl rfl rfl rfl rfl tk3) ?_
          refine .step rfl (.fieldp rfl rfl rfl rfl fo48_2) ?_
          refine .step rfl (.ldp rfl rfl rfl rfl rfl tk23) ?_
          refine .step rfl (.move rfl rfl) ?_
          refine .step rfl (.rem ((how.toNat : Int) % 2) rfl rfl rfl (by decide) (Int.tmod_eq_emod_of_nonneg (by omega))) ?_
          refine .step rfl (.conviv ((how.toNat : Int) % 2) rfl rfl uk5 uk3 (by rw [IntKind.wrap_i64]; omega)) ?_
          refine .step rfl (.move rfl rfl) ?_
          refine .step rfl (.conviv ((how.toNat : Int)) rfl rfl uk5 uk23 (by rw [IntKind.wrap_u64]; omega)) ?_
          refine .step rfl (.build rfl rfl sp25 rfl rfl) ?_
          refine .step rfl (.build rfl rfl sp27 rfl rfl) ?_
          refine .step rfl (.callf rfl cf13 rfl ⟨trivial, trivial, trivial, trivial⟩ (dec_pf (Sto.of l w (by omega) (by omega)) (u := ⟨(storyK 0 [] l)[i].nm, (storyK 0 [] l)[i].ver, (storyK 0 [] l)[i].key, (how.toNat : Int) % 2, (how.toNat : Int), 0⟩) (a := 2) (b := 0) ho1 ((dec_done (Sto.of l w (by omega) (by omega)).dir hm (u := ⟨(storyK 0 [] l)[i].nm, (storyK 0 [] l)[i].ver, (storyK 0 [] l)[i].key, (how.toNat : Int) % 2, (how.toNat : Int), 0⟩) hr1 rfl rfl).trans (by unfold same; rw [if_pos rfl])))) ?_
          refine .step rfl (.move rfl rfl) ?_
          refine .step rfl (.extract rfl rfl rfl rfl) ?_
          refine .step rfl (.extract rfl rfl rfl rfl) ?_
          refine .step rfl (.assign rfl rfl) ?_
          refine .step rfl (.assign rfl rfl) ?_
          refine .nil ?_
          refine .next ?_
          refine .seq ?_
          refine .region ?_
          refine .step rfl (.move rfl rfl) ?_
          refine .step rfl (.move rfl rfl) ?_
          refine .step rfl (.fieldp rfl rfl rfl rfl fo48_0) ?_
          refine .step rfl (.ldp rfl rfl rfl rfl rfl tk9) ?_
          refine .step rfl (.fieldp rfl rfl rfl rfl fo48_1) ?_
          refine .step rfl (.ldp rfl rfl rfl rfl rfl tk3) ?_
          refine .step rfl (.fieldp rfl rfl rfl rfl fo48_2) ?_
          refine .step rfl (.ldp rfl rfl rfl rfl rfl tk23) ?_
          refine .step rfl (.rem ((storyK 0 [] l)[i].key % 5) rfl rfl rfl (by decide) (Int.tmod_eq_emod_of_nonneg (by omega))) ?_
          refine .step rfl (.binv (.int .u64 ((storyK 0 [] l)[i].key % 5 + 1)) rfl rfl rfl rfl (congrArg _ (by rw [IntKind.wrap_u64]; omega))) ?_
          refine .step rfl (.build rfl rfl sp27 rfl rfl) ?_
          refine .step rfl (.callf rfl cf13 rfl ⟨trivial, trivial, trivial, trivial⟩ (dec_pf (Sto.of l w (by omega) (by omega)) (u := ⟨(storyK 0 [] l)[i].nm, (storyK 0 [] l)[i].ver, (storyK 0 [] l)[i].key % 5 + 1, 0, 0, 0⟩) (a := (same (storyK 0 [] l)[i].key ((storyK 0 [] l)[i].key % 5 + 1) 2).1) (b := (same (storyK 0 [] l)[i].key ((storyK 0 [] l)[i].key % 5 + 1) 2).2) ho2 (dec_done (Sto.of l w (by omega) (by omega)).dir hm (u := ⟨(storyK 0 [] l)[i].nm, (storyK 0 [] l)[i].ver, (storyK 0 [] l)[i].key % 5 + 1, 0, 0, 0⟩) hr2 rfl rfl))) ?_
          refine .step rfl (.move rfl rfl) ?_
          refine .step rfl (.extract rfl rfl rfl rfl) ?_
          refine .step rfl (.extract rfl rfl rfl rfl) ?_
          refine .step rfl (.assign rfl rfl) ?_
          refine .step rfl (.assign rfl rfl) ?_
          refine .nil ?_
          refine .next ?_
          refine .seq ?_
          refine .region ?_
          refine .step rfl (.move rfl rfl) ?_
          refine .step rfl (.move rfl rfl) ?_
          refine .step rfl (.binv (.bool true) rfl rfl rfl rfl (rfl)) ?_
          refine .step rfl (.move rfl rfl) ?_
          refine .go 112 rfl rfl rfl rfl (.move rfl rfl) ?_
          refine .go 112 rfl rfl rfl rfl (.binv (.bool true) rfl rfl rfl rfl (rfl)) ?_
          refine .step rfl (.pick rfl rfl rfl) ?_
          refine .step rfl (.move rfl rfl) ?_
          refine .go 116 rfl rfl rfl rfl (.move rfl rfl) ?_
          refine .go 116 rfl rfl rfl rfl (.bin rfl rfl rfl rfl) ?_
          refine .go 116 rfl rfl rfl rfl (.fieldp rfl rfl rfl rfl fo48_2) ?_
          refine .go 116 rfl rfl rfl rfl (.ldp rfl rfl rfl rfl rfl tk23) ?_
          refine .go 116 rfl rfl rfl rfl (.fieldp rfl rfl rfl rfl fo48_2) ?_
          refine .go 116 rfl rfl rfl rfl (.ldp rfl rfl rfl rfl rfl tk23) ?_
          refine .go 116 rfl rfl rfl rfl (.rem ((storyK 0 [] l)[i].key % 5) rfl rfl rfl (by decide) (Int.tmod_eq_emod_of_nonneg (by omega))) ?_
          refine .go 116 rfl rfl rfl rfl (.binv (.int .u64 ((storyK 0 [] l)[i].key % 5 + 1)) rfl rfl rfl rfl (congrArg _ (by rw [IntKind.wrap_u64]; omega))) ?_
          refine .go 116 rfl rfl rfl rfl (.bin rfl rfl rfl rfl) ?_
          refine .go 116 rfl rfl rfl rfl (.eqb true rfl rfl rfl ub4 (same_eqb _ _ _)) ?_
          refine .step rfl (.pick rfl rfl rfl) ?_
          refine .step rfl (.assign rfl rfl) ?_
          refine .nil ?_
          refine .next ?_
          refine .ret ?_
          exact TE.retf rfl rfl rfl trivial
        · skip
          have hjw : i - (storyK 0 [] l).length < (storyW (storyK 0 [] l) 0 [] w).length := by omega
          have hm : (storyW (storyK 0 [] l) 0 [] w)[i - (storyK 0 [] l).length] ∈ (storyW (storyK 0 [] l) 0 [] w) := List.getElem_mem hjw
          have hM := (Sto.of l w (by omega) (by omega)).wait.mem _ hm
          have hkk : (storyW (storyK 0 [] l) 0 [] w)[i - (storyK 0 [] l).length].u.key = keyF (storyW (storyK 0 [] l) 0 [] w)[i - (storyK 0 [] l).length].u.nm (storyW (storyK 0 [] l) 0 [] w)[i - (storyK 0 [] l).length].u.ver false := hM.2.2.1
          have hv0 : 1 ≤ (storyW (storyK 0 [] l) 0 [] w)[i - (storyK 0 [] l).length].u.ver := by have := hM.1; omega
          have hv1 : (storyW (storyK 0 [] l) 0 [] w)[i - (storyK 0 [] l).length].u.ver ≤ 1000 := by have := hM.2.1; have := (Sto.of l w (by omega) (by omega)).le (storyW (storyK 0 [] l) 0 [] w)[i - (storyK 0 [] l).length].u.nm; unfold lastN at this; omega
          have hn0 : 1 ≤ (storyW (storyK 0 [] l) 0 [] w)[i - (storyK 0 [] l).length].u.nm.length := hM.2.2.2.1
          have hn1 : (storyW (storyK 0 [] l) 0 [] w)[i - (storyK 0 [] l).length].u.nm.length ≤ 32 := hM.2.2.2.2
          have hk0 : 1 ≤ (storyW (storyK 0 [] l) 0 [] w)[i - (storyK 0 [] l).length].u.key := by rw [hkk]; exact keyF_pos _ _ _
          have hk1 : (storyW (storyK 0 [] l) 0 [] w)[i - (storyK 0 [] l).length].u.key < 2305843009213693951 := by rw [hkk]; exact keyF_lt _ _ _
          have hh := UInt8.toNat_lt how
          have hr1 : rightU ⟨(storyW (storyK 0 [] l) 0 [] w)[i - (storyK 0 [] l).length].u.nm, (storyW (storyK 0 [] l) 0 [] w)[i - (storyK 0 [] l).length].u.ver, (storyW (storyK 0 [] l) 0 [] w)[i - (storyK 0 [] l).length].u.key, (how.toNat : Int) % 2, (how.toNat : Int), 0⟩ = true := rightU_of hn0 hn1 hv0 (Int.le_trans hv1 (by decide)) hk0 hk1 (by show (how.toNat : Int) % 2 = 0 ∨ (how.toNat : Int) % 2 = 1; omega)
          have hr2 : rightU ⟨(storyW (storyK 0 [] l) 0 [] w)[i - (storyK 0 [] l).length].u.nm, (storyW (storyK 0 [] l) 0 [] w)[i - (storyK 0 [] l).length].u.ver, (storyW (storyK 0 [] l) 0 [] w)[i - (storyK 0 [] l).length].u.key % 5 + 1, 0, 0, 0⟩ = true := rightU_of hn0 hn1 hv0 (Int.le_trans hv1 (by decide)) (by show 1 ≤ (storyW (storyK 0 [] l) 0 [] w)[i - (storyK 0 [] l).length].u.key % 5 + 1; omega) (by show (storyW (storyK 0 [] l) 0 [] w)[i - (storyK 0 [] l).length].u.key % 5 + 1 < 2305843009213693951; omega) (.inl rfl)
          have ho1 : Up.ok ⟨(storyW (storyK 0 [] l) 0 [] w)[i - (storyK 0 [] l).length].u.nm, (storyW (storyK 0 [] l) 0 [] w)[i - (storyK 0 [] l).length].u.ver, (storyW (storyK 0 [] l) 0 [] w)[i - (storyK 0 [] l).length].u.key, (how.toNat : Int) % 2, (how.toNat : Int), 0⟩ := ⟨by show (storyW (storyK 0 [] l) 0 [] w)[i - (storyK 0 [] l).length].u.nm.length ≤ 1048576; omega, ⟨by show _ ≤ (storyW (storyK 0 [] l) 0 [] w)[i - (storyK 0 [] l).length].u.ver; omega, by show (storyW (storyK 0 [] l) 0 [] w)[i - (storyK 0 [] l).length].u.ver < _; omega⟩, ⟨by show 0 ≤ (storyW (storyK 0 [] l) 0 [] w)[i - (storyK 0 [] l).length].u.key; omega, by show (storyW (storyK 0 [] l) 0 [] w)[i - (storyK 0 [] l).length].u.key < _; omega⟩, ⟨by show _ ≤ (how.toNat : Int) % 2; omega, by show (how.toNat : Int) % 2 < _; omega⟩, ⟨by show 0 ≤ (how.toNat : Int); omega, by show (how.toNat : Int) < _; omega⟩, ⟨by show (0 : Int) ≤ 0; decide, by show (0 : Int) < 18446744073709551616; decide⟩⟩
          have ho2 : Up.ok ⟨(storyW (storyK 0 [] l) 0 [] w)[i - (storyK 0 [] l).length].u.nm, (storyW (storyK 0 [] l) 0 [] w)[i - (storyK 0 [] l).length].u.ver, (storyW (storyK 0 [] l) 0 [] w)[i - (storyK 0 [] l).length].u.key % 5 + 1, 0, 0, 0⟩ := ⟨by show (storyW (storyK 0 [] l) 0 [] w)[i - (storyK 0 [] l).length].u.nm.length ≤ 1048576; omega, ⟨by show _ ≤ (storyW (storyK 0 [] l) 0 [] w)[i - (storyK 0 [] l).length].u.ver; omega, by show (storyW (storyK 0 [] l) 0 [] w)[i - (storyK 0 [] l).length].u.ver < _; omega⟩, ⟨by show 0 ≤ (storyW (storyK 0 [] l) 0 [] w)[i - (storyK 0 [] l).length].u.key % 5 + 1; omega, by show (storyW (storyK 0 [] l) 0 [] w)[i - (storyK 0 [] l).length].u.key % 5 + 1 < _; omega⟩, ⟨by show (-9223372036854775808 : Int) ≤ 0; decide, by show (0 : Int) < 9223372036854775808; decide⟩, ⟨by show (0 : Int) ≤ 0; decide, by show (0 : Int) < 18446744073709551616; decide⟩, ⟨by show (0 : Int) ≤ 0; decide, by show (0 : Int) < 18446744073709551616; decide⟩⟩
          refine .region ?_
          refine .step rfl (.move rfl rfl) ?_
          refine .step rfl (.move rfl rfl) ?_
          refine .step rfl (.len rfl rfl ⟨_, _, rfl⟩ is29) ?_
          refine .step rfl (.binv (.bool false) rfl rfl rfl rfl (congrArg Value.bool (decide_eq_false (by omega)))) ?_
          refine .nil ?_
          refine .next ?_
          refine .cond rfl (fun h11 => absurd h11 (by decide)) (fun h11 => ?_)
          refine .seq ?_
          refine .region ?_
          refine .step rfl (.move rfl rfl) ?_
          refine .step rfl (.move rfl rfl) ?_
          refine .step rfl (.move rfl rfl) ?_
          refine .step rfl (.len rfl rfl ⟨_, _, rfl⟩ is29) ?_
          refine .step rfl (.binv (.int .i64 ((i - (storyK 0 [] l).length : Nat) : Int)) rfl rfl rfl rfl (congrArg _ (by rw [IntKind.wrap_i64]; omega))) ?_
          refine .step rfl (.idx ((storyW (storyK 0 [] l) 0 [] w)[i - (storyK 0 [] l).length]) rfl rfl rfl rfl et30 (fun _ => rfl) (Int.natCast_nonneg _) (get_nat hjw)) ?_
          refine .step rfl (.fielde rfl rfl rfl fo52_0) ?_
          refine .step rfl (.ldem rfl rfl rfl rfl rfl tk27) ?_
          refine .step rfl (.alloc 2 rfl rfl zc27 rfl) ?_
          refine .step rfl (.store rfl rfl rfl sz27 rfl rfl) ?_
          refine .nil ?_
          refine .next ?_
          refine .region ?_
          refine .step rfl (.fieldp rfl rfl rfl rfl fo27_0) ?_
          refine .step rfl (.ldp rfl rfl rfl rfl rfl tk9) ?_
          refine .step rfl (.fieldp rfl rfl rfl rfl fo27_1) ?_
          refine .step rfl (.ldp rfl rfl rfl rfl rfl tk3) ?_
          refine .step rfl (.fieldp rfl rfl rfl rfl fo27_2) ?_
          refine .step rfl (.ldp rfl rfl rfl rfl rfl tk23) ?_
          refine .step rfl (.build rfl rfl sp48 rfl rfl) ?_
          refine .step rfl (.store rfl rfl rfl sz48 rfl rfl) ?_
          refine .step rfl (.assign rfl rfl) ?_
          refine .nil ?_
          refine .next ?_
          refine .seq ?_
          refine .region ?_
          refine .step rfl (.move rfl rfl) ?_
          refine .step rfl (.move rfl rfl) ?_
          refine .step rfl (.fieldp rfl rfl rfl rfl fo48_0) ?_
          refine .step rfl (.ldp rfl rfl rfl rfl rfl tk9) ?_
          refine .step rfl (.fieldp rfl rfl rfl rfl fo48_1) ?_
          refine .step rfl (.ldp rfl rfl rfl rfl rfl tk3) ?_
          refine .step rfl (.fieldp rfl rfl rfl rfl fo48_2) ?_
          refine .step rfl (.ldp rfl rfl rfl rfl rfl tk23) ?_
          refine .step rfl (.move rfl rfl) ?_
          refine .step rfl (.rem ((how.toNat : Int) % 2) rfl rfl rfl (by decide) (Int.tmod_eq_emod_of_nonneg (by omega))) ?_
          refine .step rfl (.conviv ((how.toNat : Int) % 2) rfl rfl uk5 uk3 (by rw [IntKind.wrap_i64]; omega)) ?_
          refine .step rfl (.move rfl rfl) ?_
          refine .step rfl (.conviv ((how.toNat : Int)) rfl rfl uk5 uk23 (by rw [IntKind.wrap_u64]; omega)) ?_
          refine .step rfl (.build rfl rfl sp25 rfl rfl) ?_
          refine .step rfl (.build rfl rfl sp27 rfl rfl) ?_
          refine .step rfl (.callf rfl cf13 rfl ⟨trivial, trivial, trivial, trivial⟩ (dec_pf (Sto.of l w (by omega) (by omega)) (u := ⟨(storyW (storyK 0 [] l) 0 [] w)[i - (storyK 0 [] l).length].u.nm, (storyW (storyK 0 [] l) 0 [] w)[i - (storyK 0 [] l).length].u.ver, (storyW (storyK 0 [] l) 0 [] w)[i - (storyK 0 [] l).length].u.key, (how.toNat : Int) % 2, (how.toNat : Int), 0⟩) (a := 1) (b := 0) ho1 ((dec_wait (Sto.of l w (by omega) (by omega)).dir (Sto.of l w (by omega) (by omega)).wait hm (u := ⟨(storyW (storyK 0 [] l) 0 [] w)[i - (storyK 0 [] l).length].u.nm, (storyW (storyK 0 [] l) 0 [] w)[i - (storyK 0 [] l).length].u.ver, (storyW (storyK 0 [] l) 0 [] w)[i - (storyK 0 [] l).length].u.key, (how.toNat : Int) % 2, (how.toNat : Int), 0⟩) hr1 rfl rfl).trans (by unfold same; rw [if_pos rfl])))) ?_
          refine .step rfl (.move rfl rfl) ?_
          refine .step rfl (.extract rfl rfl rfl rfl) ?_
          refine .step rfl (.extract rfl rfl rfl rfl) ?_
          refine .step rfl (.assign rfl rfl) ?_
          refine .step rfl (.assign rfl rfl) ?_
          refine .nil ?_
          refine .next ?_
          refine .seq ?_
          refine .region ?_
          refine .step rfl (.move rfl rfl) ?_
          refine .step rfl (.move rfl rfl) ?_
          refine .step rfl (.fieldp rfl rfl rfl rfl fo48_0) ?_
          refine .step rfl (.ldp rfl rfl rfl rfl rfl tk9) ?_
          refine .step rfl (.fieldp rfl rfl rfl rfl fo48_1) ?_
          refine .step rfl (.ldp rfl rfl rfl rfl rfl tk3) ?_
          refine .step rfl (.fieldp rfl rfl rfl rfl fo48_2) ?_
          refine .step rfl (.ldp rfl rfl rfl rfl rfl tk23) ?_
          refine .step rfl (.rem ((storyW (storyK 0 [] l) 0 [] w)[i - (storyK 0 [] l).length].u.key % 5) rfl rfl rfl (by decide) (Int.tmod_eq_emod_of_nonneg (by omega))) ?_
          refine .step rfl (.binv (.int .u64 ((storyW (storyK 0 [] l) 0 [] w)[i - (storyK 0 [] l).length].u.key % 5 + 1)) rfl rfl rfl rfl (congrArg _ (by rw [IntKind.wrap_u64]; omega))) ?_
          refine .step rfl (.build rfl rfl sp27 rfl rfl) ?_
          refine .step rfl (.callf rfl cf13 rfl ⟨trivial, trivial, trivial, trivial⟩ (dec_pf (Sto.of l w (by omega) (by omega)) (u := ⟨(storyW (storyK 0 [] l) 0 [] w)[i - (storyK 0 [] l).length].u.nm, (storyW (storyK 0 [] l) 0 [] w)[i - (storyK 0 [] l).length].u.ver, (storyW (storyK 0 [] l) 0 [] w)[i - (storyK 0 [] l).length].u.key % 5 + 1, 0, 0, 0⟩) (a := (same (storyW (storyK 0 [] l) 0 [] w)[i - (storyK 0 [] l).length].u.key ((storyW (storyK 0 [] l) 0 [] w)[i - (storyK 0 [] l).length].u.key % 5 + 1) 1).1) (b := (same (storyW (storyK 0 [] l) 0 [] w)[i - (storyK 0 [] l).length].u.key ((storyW (storyK 0 [] l) 0 [] w)[i - (storyK 0 [] l).length].u.key % 5 + 1) 1).2) ho2 (dec_wait (Sto.of l w (by omega) (by omega)).dir (Sto.of l w (by omega) (by omega)).wait hm (u := ⟨(storyW (storyK 0 [] l) 0 [] w)[i - (storyK 0 [] l).length].u.nm, (storyW (storyK 0 [] l) 0 [] w)[i - (storyK 0 [] l).length].u.ver, (storyW (storyK 0 [] l) 0 [] w)[i - (storyK 0 [] l).length].u.key % 5 + 1, 0, 0, 0⟩) hr2 rfl rfl))) ?_
          refine .step rfl (.move rfl rfl) ?_
          refine .step rfl (.extract rfl rfl rfl rfl) ?_
          refine .step rfl (.extract rfl rfl rfl rfl) ?_
          refine .step rfl (.assign rfl rfl) ?_
          refine .step rfl (.assign rfl rfl) ?_
          refine .nil ?_
          refine .next ?_
          refine .seq ?_
          refine .region ?_
          refine .step rfl (.move rfl rfl) ?_
          refine .step rfl (.move rfl rfl) ?_
          refine .step rfl (.binv (.bool true) rfl rfl rfl rfl (rfl)) ?_
          refine .step rfl (.move rfl rfl) ?_
          refine .go 112 rfl rfl rfl rfl (.move rfl rfl) ?_
          refine .go 112 rfl rfl rfl rfl (.binv (.bool true) rfl rfl rfl rfl (rfl)) ?_
          refine .step rfl (.pick rfl rfl rfl) ?_
          refine .step rfl (.move rfl rfl) ?_
          refine .go 116 rfl rfl rfl rfl (.move rfl rfl) ?_
          refine .go 116 rfl rfl rfl rfl (.bin rfl rfl rfl rfl) ?_
          refine .go 116 rfl rfl rfl rfl (.fieldp rfl rfl rfl rfl fo48_2) ?_
          refine .go 116 rfl rfl rfl rfl (.ldp rfl rfl rfl rfl rfl tk23) ?_
          refine .go 116 rfl rfl rfl rfl (.fieldp rfl rfl rfl rfl fo48_2) ?_
          refine .go 116 rfl rfl rfl rfl (.ldp rfl rfl rfl rfl rfl tk23) ?_
          refine .go 116 rfl rfl rfl rfl (.rem ((storyW (storyK 0 [] l) 0 [] w)[i - (storyK 0 [] l).length].u.key % 5) rfl rfl rfl (by decide) (Int.tmod_eq_emod_of_nonneg (by omega))) ?_
          refine .go 116 rfl rfl rfl rfl (.binv (.int .u64 ((storyW (storyK 0 [] l) 0 [] w)[i - (storyK 0 [] l).length].u.key % 5 + 1)) rfl rfl rfl rfl (congrArg _ (by rw [IntKind.wrap_u64]; omega))) ?_
          refine .go 116 rfl rfl rfl rfl (.bin rfl rfl rfl rfl) ?_
          refine .go 116 rfl rfl rfl rfl (.eqb true rfl rfl rfl ub4 (same_eqb _ _ _)) ?_
          refine .step rfl (.pick rfl rfl rfl) ?_
          refine .step rfl (.assign rfl rfl) ?_
          refine .nil ?_
          refine .next ?_
          refine .ret ?_
          exact TE.retf rfl rfl rfl trivial

theorem admitTwice_walk (v0 : Value) (a0 : List UInt8) (v1 : Value) (a1 : List UInt8) (a2 : Int) (a3 : Int) (W : World) (w0 : Rd W v0 a0) (w1 : Rd W v1 a1) (w2 : (Lit.int .u8 a2).wf = true) (w3 : (Lit.int .u8 a3).wf = true) : Calls Try.prog 5 #[v0, v1, .int .u8 a2, .int .u8 a3] W fun e W' => e = .returned (.bool true) ∧ Below W.heap.size W W' := by
  obtain ⟨k2, rfl⟩ := u8_of w2
  obtain ⟨k3, rfl⟩ := u8_of w3
  exact pf_bool (twice_pf a0 a1 k2 k3) (repl_cons (rd_rep w0) (repl_cons (rd_rep w1) (repl_cons (rep_v _) (repl_cons (rep_v _) repl_nil))))

end Go.Proofs.Ytkkgjmfnlabbdaa
