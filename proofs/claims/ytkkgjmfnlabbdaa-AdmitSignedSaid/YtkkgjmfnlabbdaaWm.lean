/-
  AdmitSigned.
-/
import Derived.Test.YtkkgjmfnlabbdaaWj
namespace Go.Proofs.Ytkkgjmfnlabbdaa
set_option linter.unusedVariables false
set_option linter.unusedSimpArgs false
open Go.RowKit Pl

theorem cf14 : cfn Try.prog 14 = true := by kernel_rfl
theorem cf8 : cfn Try.prog 8 = true := by kernel_rfl
theorem cf9 : cfn Try.prog 9 = true := by kernel_rfl
theorem fl27_4 : fld Try.prog 27 4 = some (4, some 2) := by kernel_rfl
theorem fo27_4 : fo Try.prog 27 4 = some 4 := by kernel_rfl
theorem sz25 : szt Try.prog 25 = some 2 := by kernel_rfl

set_option maxRecDepth 100000 in
set_option maxHeartbeats 1600000 in
theorem signed_pf (l w : List UInt8) (k : UInt8) (secret key : Int) : PF Try.prog 4 [slT bdv 1 l, slT bdv 1 w, .v (.int .u8 k.toNat), .v (.int .u64 secret), .v (.int .u64 key)] (.v (.bool true)) := by
  refine PF.enter (fn := Try.f4) Try.func4 rfl Try.ntmps4 rfl (fun w0 => ?_)
  refine .seq ?_
  refine .region ?_
  refine .step rfl (.assign rfl rfl) ?_
  refine .nil ?_
  refine .next ?_
  refine .seq ?_
  refine .seq ?_
  refine .region ?_
  refine .step rfl (.callf rfl cf8 rfl trivial (known_pf)) ?_
  refine .step rfl (.un rfl rfl rfl) ?_
  refine .nil ?_
  refine .next ?_
  refine .cond rfl (fun h1 => absurd h1 (by decide)) (fun h1 => ?_)
  refine .skip ?_
  refine .next ?_
  refine .seq ?_
  refine .seq ?_
  by_cases hla : 10 < l.length
  · skip
    refine .region ?_
    refine .step rfl (.move rfl rfl) ?_
    refine .step rfl (.len rfl rfl ⟨_, _, rfl⟩ is22) ?_
    refine .step rfl (.binv (.bool true) rfl rfl rfl rfl (congrArg Value.bool (decide_eq_true (by omega)))) ?_
    refine .step rfl (.move rfl rfl) ?_
    refine .no 29 rfl rfl rfl rfl rfl rfl rfl ?_
    refine .no 29 rfl rfl rfl rfl rfl rfl rfl ?_
    refine .no 29 rfl rfl rfl rfl rfl rfl rfl ?_
    refine .step rfl (.pick rfl rfl rfl) ?_
    refine .nil ?_
    refine .next ?_
    refine .cond rfl (fun h3 => ?_) (fun h3 => absurd h3 (by decide))
    refine .seq ?_
    refine .region ?_
    refine .step rfl (.assign rfl rfl) ?_
    refine .nil ?_
    refine .next ?_
    refine .ret ?_
    exact TE.retf rfl rfl rfl trivial
  · skip
    by_cases hwb : 8 < w.length
    · skip
      refine .region ?_
      refine .step rfl (.move rfl rfl) ?_
      refine .step rfl (.len rfl rfl ⟨_, _, rfl⟩ is22) ?_
      refine .step rfl (.binv (.bool false) rfl rfl rfl rfl (congrArg Value.bool (decide_eq_false (by omega)))) ?_
      refine .step rfl (.move rfl rfl) ?_
      refine .go 29 rfl rfl rfl rfl (.move rfl rfl) ?_
      refine .go 29 rfl rfl rfl rfl (.len rfl rfl ⟨_, _, rfl⟩ is22) ?_
      refine .go 29 rfl rfl rfl rfl (.binv (.bool true) rfl rfl rfl rfl (congrArg Value.bool (decide_eq_true (by omega)))) ?_
      refine .step rfl (.pick rfl rfl rfl) ?_
      refine .nil ?_
      refine .next ?_
      refine .cond rfl (fun h5 => ?_) (fun h5 => absurd h5 (by decide))
      refine .seq ?_
      refine .region ?_
      refine .step rfl (.assign rfl rfl) ?_
      refine .nil ?_
      refine .next ?_
      refine .ret ?_
      exact TE.retf rfl rfl rfl trivial
    · skip
      refine .region ?_
      refine .step rfl (.move rfl rfl) ?_
      refine .step rfl (.len rfl rfl ⟨_, _, rfl⟩ is22) ?_
      refine .step rfl (.binv (.bool false) rfl rfl rfl rfl (congrArg Value.bool (decide_eq_false (by omega)))) ?_
      refine .step rfl (.move rfl rfl) ?_
      refine .go 29 rfl rfl rfl rfl (.move rfl rfl) ?_
      refine .go 29 rfl rfl rfl rfl (.len rfl rfl ⟨_, _, rfl⟩ is22) ?_
      refine .go 29 rfl rfl rfl rfl (.binv (.bool false) rfl rfl rfl rfl (congrArg Value.bool (decide_eq_false (by omega)))) ?_
      refine .step rfl (.pick rfl rfl rfl) ?_
      refine .nil ?_
      refine .next ?_
      refine .cond rfl (fun h6 => absurd h6 (by decide)) (fun h6 => ?_)
      refine .skip ?_
      refine .next ?_
      refine .seq ?_
      refine .region ?_
      refine .step rfl (.move rfl rfl) ?_
      refine .step rfl (.move rfl rfl) ?_
      refine .step rfl (.callc rfl cf9 rfl (story_pc l w (by omega) (by omega))) ?_
      refine .step rfl (.move rfl rfl) ?_
      refine .step rfl (.extract rfl rfl rfl rfl) ?_
      refine .step rfl (.extract rfl rfl rfl rfl) ?_
      refine .step rfl (.assign rfl rfl) ?_
      refine .step rfl (.assign rfl rfl) ?_
      refine .nil ?_
      refine .next ?_
      refine .seq ?_
      refine .region ?_
      refine .step rfl (.move rfl rfl) ?_
      refine .step rfl (.callf rfl cf10 rfl ⟨trivial, trivial⟩ (name8_pf k)) ?_
      refine .step rfl (.assign rfl rfl) ?_
      refine .nil ?_
      refine .next ?_
      refine .seq ?_
      refine .region ?_
      refine .step rfl (.move rfl rfl) ?_
      refine .step rfl (.move rfl rfl) ?_
      refine .step rfl (.move rfl rfl) ?_
      refine .step rfl (.callf rfl cf15 rfl ⟨trivial, trivial, trivial, trivial⟩ (nx_pf (Sto.of l w (by omega) (by omega)) _)) ?_
      refine .step rfl (.move rfl rfl) ?_
      refine .step rfl (.extract rfl rfl rfl rfl) ?_
      refine .step rfl (.extract rfl rfl rfl rfl) ?_
      refine .step rfl (.assign rfl rfl) ?_
      refine .step rfl (.assign rfl rfl) ?_
      refine .nil ?_
      refine .next ?_
      refine .seq ?_
      have hle := (Sto.of l w (by omega) (by omega)).le (nameL k.toNat)
      refine .region ?_
      refine .step rfl (.move rfl rfl) ?_
      refine .step rfl (.move rfl rfl) ?_
      refine .step rfl (.callf rfl cf12 rfl ⟨trivial, trivial, trivial, trivial, trivial⟩ (upd_pf (Sto.of l w (by omega) (by omega)) k ((lastN l w (nameL k.toNat) + 1 : Nat) : Int) 0 0 (by omega) (by omega) (by decide) (by decide) (by decide))) ?_
      refine .step rfl (.alloc 1 rfl rfl zc27 rfl) ?_
      refine .step rfl (.store rfl rfl rfl sz27 rfl rfl) ?_
      refine .nil ?_
      refine .next ?_
      refine .seq ?_
      refine .region ?_
      refine .step rfl (.move rfl rfl) ?_
      refine .step rfl (.move rfl rfl) ?_
      refine .step rfl (.ldpm rfl rfl rfl rfl rfl rfl tk27) ?_
      refine .step rfl (.callf rfl cf13 rfl ⟨trivial, trivial, trivial, trivial⟩ (dec_pf (Sto.of l w (by omega) (by omega)) (okU k _ _ _ (by omega) (by omega) (by decide)) (s_next (Sto.of l w (by omega) (by omega)) k 0 (by decide)))) ?_
      refine .step rfl (.move rfl rfl) ?_
      refine .step rfl (.extract rfl rfl rfl rfl) ?_
      refine .step rfl (.extract rfl rfl rfl rfl) ?_
      refine .step rfl (.assign rfl rfl) ?_
      refine .step rfl (.assign rfl rfl) ?_
      refine .nil ?_
      refine .next ?_
      refine .seq ?_
      refine .seq ?_
      by_cases hlast : 0 < lastN l w (nameL k.toNat)
      · skip
        have hlk : lastK l w (nameL k.toNat) = keyF (nameL k.toNat) (lastN l w (nameL k.toNat) : Int) false := by unfold lastK; rw [if_neg (by omega)]
        refine .region ?_
        refine .step rfl (.move rfl rfl) ?_
        refine .step rfl (.binv (.bool false) rfl rfl rfl rfl (rfl)) ?_
        refine .step rfl (.move rfl rfl) ?_
        refine .go 61 rfl rfl rfl rfl (.move rfl rfl) ?_
        refine .go 61 rfl rfl rfl rfl (.binv (.bool false) rfl rfl rfl rfl (rfl)) ?_
        refine .step rfl (.pick rfl rfl rfl) ?_
        refine .step rfl (.move rfl rfl) ?_
        refine .go 65 rfl rfl rfl rfl (.move rfl rfl) ?_
        refine .go 65 rfl rfl rfl rfl (.binv (.bool true) rfl rfl rfl rfl (congrArg Value.bool (decide_eq_true (by omega)))) ?_
        refine .go 65 rfl rfl rfl rfl (.move rfl rfl) ?_
        refine .go 68 rfl rfl rfl rfl (.move rfl rfl) ?_
        refine .go 68 rfl rfl rfl rfl (.move rfl rfl) ?_
        refine .go 68 rfl rfl rfl rfl (.move rfl rfl) ?_
        refine .go 68 rfl rfl rfl rfl (.binv (.int .i64 (lastN l w (nameL k.toNat) : Int)) rfl rfl rfl rfl (congrArg _ (by rw [IntKind.wrap_i64]; omega))) ?_
        refine .go 68 rfl rfl rfl rfl (.callf rfl cf16 rfl ⟨trivial, trivial, trivial, trivial⟩ (key_pf (nameL k.toNat) _ false (by have := (nameL_len (k.toNat)).2; omega))) ?_
        refine .go 68 rfl rfl rfl rfl (.binv (.bool false) rfl rfl rfl rfl (by rw [hlk]; simp)) ?_
        refine .go 65 rfl rfl rfl rfl (.pick rfl rfl rfl) ?_
        refine .step rfl (.pick rfl rfl rfl) ?_
        refine .step rfl (.move rfl rfl) ?_
        refine .go 77 rfl rfl rfl rfl (.move rfl rfl) ?_
        refine .go 77 rfl rfl rfl rfl (.binv (.bool false) rfl rfl rfl rfl (congrArg Value.bool (decide_eq_false (by omega)))) ?_
        refine .go 77 rfl rfl rfl rfl (.move rfl rfl) ?_
        refine .no 80 rfl rfl rfl rfl rfl rfl rfl ?_
        refine .no 80 rfl rfl rfl rfl rfl rfl rfl ?_
        refine .go 77 rfl rfl rfl rfl (.pick rfl rfl rfl) ?_
        refine .step rfl (.pick rfl rfl rfl) ?_
        refine .nil ?_
        refine .next ?_
        refine .cond rfl (fun h8 => absurd h8 (by decide)) (fun h8 => ?_)
        refine .skip ?_
        refine .next ?_
        refine .seq ?_
        refine .region ?_
        refine .step rfl (.ldpm rfl rfl rfl rfl rfl rfl tk27) ?_
        refine .step rfl (.alloc 2 rfl rfl zc27 rfl) ?_
        refine .step rfl (.store rfl rfl rfl sz27 rfl rfl) ?_
        refine .nil ?_
        refine .next ?_
        refine .seq ?_
        refine .region ?_
        refine .step rfl (.move rfl rfl) ?_
        refine .step rfl (.move rfl rfl) ?_
        refine .step rfl (.callf rfl cf12 rfl ⟨trivial, trivial, trivial, trivial, trivial⟩ (upd_pf (Sto.of l w (by omega) (by omega)) k ((lastN l w (nameL k.toNat) + 1 : Nat) : Int) 0 5 (by omega) (by omega) (by decide) (by decide) (by decide))) ?_
        refine .step rfl (.fieldm rfl rfl rfl fl27_4 rfl) ?_
        refine .step rfl (.fieldp rfl rfl rfl rfl fo27_4) ?_
        refine .step rfl (.store rfl rfl rfl sz25 rfl rfl) ?_
        refine .nil ?_
        refine .next ?_
        refine .seq ?_
        have ho1 : (seatU (nameL k.toNat) ((lastN l w (nameL k.toNat) + 1 : Nat) : Int) 0 0).ok := okU k _ _ _ (by omega) (by omega) (by decide)
        have ho2 : (seatU (nameL k.toNat) ((lastN l w (nameL k.toNat) + 1 : Nat) : Int) 0 5).ok := okU k _ _ _ (by omega) (by omega) (by decide)
        have hokz : ({ (seatU (nameL k.toNat) ((lastN l w (nameL k.toNat) + 1 : Nat) : Int) 0 0) with r := (seatU (nameL k.toNat) ((lastN l w (nameL k.toNat) + 1 : Nat) : Int) 0 5).r, s := (seatU (nameL k.toNat) ((lastN l w (nameL k.toNat) + 1 : Nat) : Int) 0 5).s } : Up).ok := ⟨ho1.nm, ho1.ver, ho1.key, ho1.cls, ho2.r, ho2.s⟩
        refine .region ?_
        refine .step rfl (.move rfl rfl) ?_
        refine .step rfl (.move rfl rfl) ?_
        refine .step rfl (.ldpm rfl rfl rfl rfl rfl rfl tk27) ?_
        refine .step rfl (.callf rfl cf13 rfl ⟨trivial, trivial, trivial, trivial⟩ (dec_pf (Sto.of l w (by omega) (by omega)) (u := { (seatU (nameL k.toNat) ((lastN l w (nameL k.toNat) + 1 : Nat) : Int) 0 0) with r := (seatU (nameL k.toNat) ((lastN l w (nameL k.toNat) + 1 : Nat) : Int) 0 5).r, s := (seatU (nameL k.toNat) ((lastN l w (nameL k.toNat) + 1 : Nat) : Int) 0 5).s }) (a := (decideR (storyK 0 [] l) (storyW (storyK 0 [] l) 0 [] w) { (seatU (nameL k.toNat) ((lastN l w (nameL k.toNat) + 1 : Nat) : Int) 0 0) with r := (seatU (nameL k.toNat) ((lastN l w (nameL k.toNat) + 1 : Nat) : Int) 0 5).r, s := (seatU (nameL k.toNat) ((lastN l w (nameL k.toNat) + 1 : Nat) : Int) 0 5).s }).1) (b := (decideR (storyK 0 [] l) (storyW (storyK 0 [] l) 0 [] w) { (seatU (nameL k.toNat) ((lastN l w (nameL k.toNat) + 1 : Nat) : Int) 0 0) with r := (seatU (nameL k.toNat) ((lastN l w (nameL k.toNat) + 1 : Nat) : Int) 0 5).r, s := (seatU (nameL k.toNat) ((lastN l w (nameL k.toNat) + 1 : Nat) : Int) 0 5).s }).2) hokz rfl)) ?_
        refine .step rfl (.move rfl rfl) ?_
        refine .step rfl (.extract rfl rfl rfl rfl) ?_
        refine .step rfl (.extract rfl rfl rfl rfl) ?_
        refine .step rfl (.assign rfl rfl) ?_
        refine .step rfl (.assign rfl rfl) ?_
        refine .nil ?_
        refine .next ?_
        refine .seq ?_
        refine .region ?_
        refine .step rfl (.move rfl rfl) ?_
        refine .step rfl (.move rfl rfl) ?_
        refine .step rfl (.ldpm rfl rfl rfl rfl rfl rfl tk27) ?_
        refine .step rfl (.callf rfl cf14 rfl ⟨trivial, trivial, trivial, trivial⟩ (rdec_pf (Sto.of l w (by omega) (by omega)) (u := { (seatU (nameL k.toNat) ((lastN l w (nameL k.toNat) + 1 : Nat) : Int) 0 0) with r := (seatU (nameL k.toNat) ((lastN l w (nameL k.toNat) + 1 : Nat) : Int) 0 5).r, s := (seatU (nameL k.toNat) ((lastN l w (nameL k.toNat) + 1 : Nat) : Int) 0 5).s }) (a := (decideR (storyK 0 [] l) (storyW (storyK 0 [] l) 0 [] w) { (seatU (nameL k.toNat) ((lastN l w (nameL k.toNat) + 1 : Nat) : Int) 0 0) with r := (seatU (nameL k.toNat) ((lastN l w (nameL k.toNat) + 1 : Nat) : Int) 0 5).r, s := (seatU (nameL k.toNat) ((lastN l w (nameL k.toNat) + 1 : Nat) : Int) 0 5).s }).1) (b := (decideR (storyK 0 [] l) (storyW (storyK 0 [] l) 0 [] w) { (seatU (nameL k.toNat) ((lastN l w (nameL k.toNat) + 1 : Nat) : Int) 0 0) with r := (seatU (nameL k.toNat) ((lastN l w (nameL k.toNat) + 1 : Nat) : Int) 0 5).r, s := (seatU (nameL k.toNat) ((lastN l w (nameL k.toNat) + 1 : Nat) : Int) 0 5).s }).2) hokz rfl)) ?_
        refine .step rfl (.move rfl rfl) ?_
        refine .step rfl (.extract rfl rfl rfl rfl) ?_
        refine .step rfl (.extract rfl rfl rfl rfl) ?_
        refine .step rfl (.assign rfl rfl) ?_
        refine .step rfl (.assign rfl rfl) ?_
        refine .nil ?_
        refine .next ?_
        refine .seq ?_
        refine .region ?_
        refine .step rfl (.move rfl rfl) ?_
        refine .step rfl (.move rfl rfl) ?_
        refine .step rfl (.binv (.bool true) rfl rfl rfl rfl (by simp)) ?_
        refine .step rfl (.move rfl rfl) ?_
        refine .go 108 rfl rfl rfl rfl (.move rfl rfl) ?_
        refine .go 108 rfl rfl rfl rfl (.move rfl rfl) ?_
        refine .go 108 rfl rfl rfl rfl (.binv (.bool true) rfl rfl rfl rfl (by simp)) ?_
        refine .step rfl (.pick rfl rfl rfl) ?_
        refine .step rfl (.assign rfl rfl) ?_
        refine .nil ?_
        refine .next ?_
        refine .ret ?_
        exact TE.retf rfl rfl rfl trivial
      · skip
        have hlz : lastN l w (nameL k.toNat) = 0 := by omega
        have hlk : lastK l w (nameL k.toNat) = 0 := by unfold lastK; rw [if_pos hlz]
        refine .region ?_
        refine .step rfl (.move rfl rfl) ?_
        refine .step rfl (.binv (.bool false) rfl rfl rfl rfl (rfl)) ?_
        refine .step rfl (.move rfl rfl) ?_
        refine .go 61 rfl rfl rfl rfl (.move rfl rfl) ?_
        refine .go 61 rfl rfl rfl rfl (.binv (.bool false) rfl rfl rfl rfl (rfl)) ?_
        refine .step rfl (.pick rfl rfl rfl) ?_
        refine .step rfl (.move rfl rfl) ?_
        refine .go 65 rfl rfl rfl rfl (.move rfl rfl) ?_
        refine .go 65 rfl rfl rfl rfl (.binv (.bool false) rfl rfl rfl rfl (congrArg Value.bool (decide_eq_false (by omega)))) ?_
        refine .go 65 rfl rfl rfl rfl (.move rfl rfl) ?_
        refine .no 68 rfl rfl rfl rfl rfl rfl rfl ?_
        refine .no 68 rfl rfl rfl rfl rfl rfl rfl ?_
        refine .no 68 rfl rfl rfl rfl rfl rfl rfl ?_
        refine .no 68 rfl rfl rfl rfl rfl rfl rfl ?_
        refine .no 68 rfl rfl rfl rfl rfl rfl rfl ?_
        refine .no 68 rfl rfl rfl rfl rfl rfl rfl ?_
        refine .go 65 rfl rfl rfl rfl (.pick rfl rfl rfl) ?_
        refine .step rfl (.pick rfl rfl rfl) ?_
        refine .step rfl (.move rfl rfl) ?_
        refine .go 77 rfl rfl rfl rfl (.move rfl rfl) ?_
        refine .go 77 rfl rfl rfl rfl (.binv (.bool true) rfl rfl rfl rfl (congrArg Value.bool (decide_eq_true (by omega)))) ?_
        refine .go 77 rfl rfl rfl rfl (.move rfl rfl) ?_
        refine .go 80 rfl rfl rfl rfl (.move rfl rfl) ?_
        refine .go 80 rfl rfl rfl rfl (.binv (.bool false) rfl rfl rfl rfl (by rw [hlk]; rfl)) ?_
        refine .go 77 rfl rfl rfl rfl (.pick rfl rfl rfl) ?_
        refine .step rfl (.pick rfl rfl rfl) ?_
        refine .nil ?_
        refine .next ?_
        refine .cond rfl (fun h9 => absurd h9 (by decide)) (fun h9 => ?_)
        refine .skip ?_
        refine .next ?_
        refine .seq ?_
        refine .region ?_
        refine .step rfl (.ldpm rfl rfl rfl rfl rfl rfl tk27) ?_
        refine .step rfl (.alloc 3 rfl rfl zc27 rfl) ?_
        refine .step rfl (.store rfl rfl rfl sz27 rfl rfl) ?_
        refine .nil ?_
        refine .next ?_
        refine .seq ?_
        refine .region ?_
        refine .step rfl (.move rfl rfl) ?_
        refine .step rfl (.move rfl rfl) ?_
        refine .step rfl (.callf rfl cf12 rfl ⟨trivial, trivial, trivial, trivial, trivial⟩ (upd_pf (Sto.of l w (by omega) (by omega)) k ((lastN l w (nameL k.toNat) + 1 : Nat) : Int) 0 5 (by omega) (by omega) (by decide) (by decide) (by decide))) ?_
        refine .step rfl (.fieldm rfl rfl rfl fl27_4 rfl) ?_
        refine .step rfl (.fieldp rfl rfl rfl rfl fo27_4) ?_
        refine .step rfl (.store rfl rfl rfl sz25 rfl rfl) ?_
        refine .nil ?_
        refine .next ?_
        refine .seq ?_
        have ho1 : (seatU (nameL k.toNat) ((lastN l w (nameL k.toNat) + 1 : Nat) : Int) 0 0).ok := okU k _ _ _ (by omega) (by omega) (by decide)
        have ho2 : (seatU (nameL k.toNat) ((lastN l w (nameL k.toNat) + 1 : Nat) : Int) 0 5).ok := okU k _ _ _ (by omega) (by omega) (by decide)
        have hokz : ({ (seatU (nameL k.toNat) ((lastN l w (nameL k.toNat) + 1 : Nat) : Int) 0 0) with r := (seatU (nameL k.toNat) ((lastN l w (nameL k.toNat) + 1 : Nat) : Int) 0 5).r, s := (seatU (nameL k.toNat) ((lastN l w (nameL k.toNat) + 1 : Nat) : Int) 0 5).s } : Up).ok := ⟨ho1.nm, ho1.ver, ho1.key, ho1.cls, ho2.r, ho2.s⟩
        refine .region ?_
        refine .step rfl (.move rfl rfl) ?_
        refine .step rfl (.move rfl rfl) ?_
        refine .step rfl (.ldpm rfl rfl rfl rfl rfl rfl tk27) ?_
        refine .step rfl (.callf rfl cf13 rfl ⟨trivial, trivial, trivial, trivial⟩ (dec_pf (Sto.of l w (by omega) (by omega)) (u := { (seatU (nameL k.toNat) ((lastN l w (nameL k.toNat) + 1 : Nat) : Int) 0 0) with r := (seatU (nameL k.toNat) ((lastN l w (nameL k.toNat) + 1 : Nat) : Int) 0 5).r, s := (seatU (nameL k.toNat) ((lastN l w (nameL k.toNat) + 1 : Nat) : Int) 0 5).s }) (a := (decideR (storyK 0 [] l) (storyW (storyK 0 [] l) 0 [] w) { (seatU (nameL k.toNat) ((lastN l w (nameL k.toNat) + 1 : Nat) : Int) 0 0) with r := (seatU (nameL k.toNat) ((lastN l w (nameL k.toNat) + 1 : Nat) : Int) 0 5).r, s := (seatU (nameL k.toNat) ((lastN l w (nameL k.toNat) + 1 : Nat) : Int) 0 5).s }).1) (b := (decideR (storyK 0 [] l) (storyW (storyK 0 [] l) 0 [] w) { (seatU (nameL k.toNat) ((lastN l w (nameL k.toNat) + 1 : Nat) : Int) 0 0) with r := (seatU (nameL k.toNat) ((lastN l w (nameL k.toNat) + 1 : Nat) : Int) 0 5).r, s := (seatU (nameL k.toNat) ((lastN l w (nameL k.toNat) + 1 : Nat) : Int) 0 5).s }).2) hokz rfl)) ?_
        refine .step rfl (.move rfl rfl) ?_
        refine .step rfl (.extract rfl rfl rfl rfl) ?_
        refine .step rfl (.extract rfl rfl rfl rfl) ?_
        refine .step rfl (.assign rfl rfl) ?_
        refine .step rfl (.assign rfl rfl) ?_
        refine .nil ?_
        refine .next ?_
        refine .seq ?_
        refine .region ?_
        refine .step rfl (.move rfl rfl) ?_
        refine .step rfl (.move rfl rfl) ?_
        refine .step rfl (.ldpm rfl rfl rfl rfl rfl rfl tk27) ?_
        refine .step rfl (.callf rfl cf14 rfl ⟨trivial, trivial, trivial, trivial⟩ (rdec_pf (Sto.of l w (by omega) (by omega)) (u := { (seatU (nameL k.toNat) ((lastN l w (nameL k.toNat) + 1 : Nat) : Int) 0 0) with r := (seatU (nameL k.toNat) ((lastN l w (nameL k.toNat) + 1 : Nat) : Int) 0 5).r, s := (seatU (nameL k.toNat) ((lastN l w (nameL k.toNat) + 1 : Nat) : Int) 0 5).s }) (a := (decideR (storyK 0 [] l) (storyW (storyK 0 [] l) 0 [] w) { (seatU (nameL k.toNat) ((lastN l w (nameL k.toNat) + 1 : Nat) : Int) 0 0) with r := (seatU (nameL k.toNat) ((lastN l w (nameL k.toNat) + 1 : Nat) : Int) 0 5).r, s := (seatU (nameL k.toNat) ((lastN l w (nameL k.toNat) + 1 : Nat) : Int) 0 5).s }).1) (b := (decideR (storyK 0 [] l) (storyW (storyK 0 [] l) 0 [] w) { (seatU (nameL k.toNat) ((lastN l w (nameL k.toNat) + 1 : Nat) : Int) 0 0) with r := (seatU (nameL k.toNat) ((lastN l w (nameL k.toNat) + 1 : Nat) : Int) 0 5).r, s := (seatU (nameL k.toNat) ((lastN l w (nameL k.toNat) + 1 : Nat) : Int) 0 5).s }).2) hokz rfl)) ?_
        refine .step rfl (.move rfl rfl) ?_
        refine .step rfl (.extract rfl rfl rfl rfl) ?_
        refine .step rfl (.extract rfl rfl rfl rfl) ?_
        refine .step rfl (.assign rfl rfl) ?_
        refine .step rfl (.assign rfl rfl) ?_
        refine .nil ?_
        refine .next ?_
        refine .seq ?_
        refine .region ?_
        refine .step rfl (.move rfl rfl) ?_
        refine .step rfl (.move rfl rfl) ?_
        refine .step rfl (.binv (.bool true) rfl rfl rfl rfl (by simp)) ?_
        refine .step rfl (.move rfl rfl) ?_
        refine .go 108 rfl rfl rfl rfl (.move rfl rfl) ?_
        refine .go 108 rfl rfl rfl rfl (.move rfl rfl) ?_
        refine .go 108 rfl rfl rfl rfl (.binv (.bool true) rfl rfl rfl rfl (by simp)) ?_
        refine .step rfl (.pick rfl rfl rfl) ?_
        refine .step rfl (.assign rfl rfl) ?_
        refine .nil ?_
        refine .next ?_
        refine .ret ?_
        exact TE.retf rfl rfl rfl trivial

theorem admitSigned_walk (v0 : Value) (a0 : List UInt8) (v1 : Value) (a1 : List UInt8) (a2 : Int) (a3 : Int) (a4 : Int) (W : World) (w0 : Rd W v0 a0) (w1 : Rd W v1 a1) (w2 : (Lit.int .u8 a2).wf = true) (w3 : (Lit.int .u64 a3).wf = true) (w4 : (Lit.int .u64 a4).wf = true) : Calls Try.prog 4 #[v0, v1, .int .u8 a2, .int .u64 a3, .int .u64 a4] W fun e W' => e = .returned (.bool true) ∧ Below W.heap.size W W' := by
  obtain ⟨k2, rfl⟩ := u8_of w2
  exact pf_bool (signed_pf a0 a1 k2 a3 a4) (repl_cons (rd_rep w0) (repl_cons (rd_rep w1) (repl_cons (rep_v _) (repl_cons (rep_v _) (repl_cons (rep_v _) repl_nil)))))

end Go.Proofs.Ytkkgjmfnlabbdaa
