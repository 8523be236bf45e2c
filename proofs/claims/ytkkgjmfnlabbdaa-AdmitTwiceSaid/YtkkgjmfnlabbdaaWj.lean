/-
  The seat's own story.
-/
import Derived.Test.YtkkgjmfnlabbdaaDx
namespace Go.Proofs.Ytkkgjmfnlabbdaa
set_option linter.unusedVariables false
set_option linter.unusedSimpArgs false
open Go.RowKit Pl

theorem cf13 : cfn Try.prog 13 = true := by kernel_rfl

set_option maxRecDepth 100000 in
set_option maxHeartbeats 1600000 in
theorem known_pf : PF Try.prog 8 [] (.v (.bool true)) := by
  refine PF.enter (fn := Try.f8) Try.func8 rfl Try.ntmps8 rfl (fun w0 => ?_)
  refine .seq ?_
  refine .region ?_
  refine .step rfl (.assign rfl rfl) ?_
  refine .nil ?_
  refine .next ?_
  refine .seq ?_
  refine .region ?_
  refine .step rfl (.callf rfl cf12 rfl ⟨trivial, trivial, trivial, trivial, trivial⟩ (upd1 1 (by decide) (by decide))) ?_
  refine .step rfl (.alloc 1 rfl rfl zc27 rfl) ?_
  refine .step rfl (.store rfl rfl rfl sz27 rfl rfl) ?_
  refine .nil ?_
  refine .next ?_
  refine .seq ?_
  refine .region ?_
  refine .step rfl (.ldpm rfl rfl rfl rfl rfl rfl tk27) ?_
  refine .step rfl (.callf rfl cf13 rfl ⟨trivial, trivial, trivial, trivial⟩ (.nil1 (.nil2 (dec_pf S0 (ok1 1 (by decide) (by decide)) k1)))) ?_
  refine .step rfl (.move rfl rfl) ?_
  refine .step rfl (.extract rfl rfl rfl rfl) ?_
  refine .step rfl (.extract rfl rfl rfl rfl) ?_
  refine .step rfl (.assign rfl rfl) ?_
  refine .step rfl (.assign rfl rfl) ?_
  refine .nil ?_
  refine .next ?_
  refine .seq ?_
  refine .region ?_
  refine .step rfl (.ldpm rfl rfl rfl rfl rfl rfl tk27) ?_
  refine .step rfl (.build rfl rfl sp52 rfl rfl) ?_
  refine .step rfl (.buildsl (ds := Pe.dv ⟨seatU [97] 1 0 0, 0, 0, false⟩) 2 rfl rfl rfl ap30 zc52 rfl rfl rfl) ?_
  refine .step rfl (.assign rfl rfl) ?_
  refine .nil ?_
  refine .next ?_
  refine .seq ?_
  refine .region ?_
  refine .step rfl (.move rfl rfl) ?_
  refine .step rfl (.ldpm rfl rfl rfl rfl rfl rfl tk27) ?_
  refine .step rfl (.callf rfl cf13 rfl ⟨trivial, okA_len rfl rfl, trivial, trivial⟩ (.nil1 (dec_pf S1 (ok1 1 (by decide) (by decide)) k2))) ?_
  refine .step rfl (.move rfl rfl) ?_
  refine .step rfl (.extract rfl rfl rfl rfl) ?_
  refine .step rfl (.extract rfl rfl rfl rfl) ?_
  refine .step rfl (.assign rfl rfl) ?_
  refine .step rfl (.assign rfl rfl) ?_
  refine .nil ?_
  refine .next ?_
  refine .seq ?_
  refine .region ?_
  refine .step rfl (.move rfl rfl) ?_
  refine .step rfl (.callf rfl cf12 rfl ⟨trivial, trivial, trivial, trivial, trivial⟩ (upd1 3 (by decide) (by decide))) ?_
  refine .step rfl (.callf rfl cf13 rfl ⟨trivial, okA_len rfl rfl, trivial, trivial⟩ (.nil1 (dec_pf S1 (ok1 3 (by decide) (by decide)) k3))) ?_
  refine .step rfl (.move rfl rfl) ?_
  refine .step rfl (.extract rfl rfl rfl rfl) ?_
  refine .step rfl (.extract rfl rfl rfl rfl) ?_
  refine .step rfl (.assign rfl rfl) ?_
  refine .step rfl (.assign rfl rfl) ?_
  refine .nil ?_
  refine .next ?_
  refine .seq ?_
  refine .region ?_
  refine .step rfl (.move rfl rfl) ?_
  refine .step rfl (.callf rfl cf12 rfl ⟨trivial, trivial, trivial, trivial, trivial⟩ (upd1 2 (by decide) (by decide))) ?_
  refine .step rfl (.callf rfl cf13 rfl ⟨trivial, okA_len rfl rfl, trivial, trivial⟩ (.nil1 (dec_pf S1 (ok1 2 (by decide) (by decide)) k4))) ?_
  refine .step rfl (.move rfl rfl) ?_
  refine .step rfl (.extract rfl rfl rfl rfl) ?_
  refine .step rfl (.extract rfl rfl rfl rfl) ?_
  refine .step rfl (.assign rfl rfl) ?_
  refine .step rfl (.assign rfl rfl) ?_
  refine .nil ?_
  refine .next ?_
  refine .seq ?_
  refine .region ?_
  refine .step rfl (.move rfl rfl) ?_
  refine .step rfl (.callf rfl cf15 rfl ⟨trivial, okA_len rfl rfl, trivial, trivial⟩ (.nil1 nx1)) ?_
  refine .step rfl (.move rfl rfl) ?_
  refine .step rfl (.extract rfl rfl rfl rfl) ?_
  refine .step rfl (.extract rfl rfl rfl rfl) ?_
  refine .step rfl (.assign rfl rfl) ?_
  refine .step rfl (.assign rfl rfl) ?_
  refine .nil ?_
  refine .next ?_
  refine .seq ?_
  refine .region ?_
  refine .step rfl (.move rfl rfl) ?_
  refine .step rfl (.binv (.bool true) rfl rfl rfl rfl (rfl)) ?_
  refine .step rfl (.move rfl rfl) ?_
  refine .go 47 rfl rfl rfl rfl (.move rfl rfl) ?_
  refine .go 47 rfl rfl rfl rfl (.binv (.bool true) rfl rfl rfl rfl (rfl)) ?_
  refine .step rfl (.pick rfl rfl rfl) ?_
  refine .step rfl (.move rfl rfl) ?_
  refine .go 51 rfl rfl rfl rfl (.move rfl rfl) ?_
  refine .go 51 rfl rfl rfl rfl (.binv (.bool true) rfl rfl rfl rfl (rfl)) ?_
  refine .step rfl (.pick rfl rfl rfl) ?_
  refine .step rfl (.move rfl rfl) ?_
  refine .go 55 rfl rfl rfl rfl (.move rfl rfl) ?_
  refine .go 55 rfl rfl rfl rfl (.binv (.bool true) rfl rfl rfl rfl (rfl)) ?_
  refine .step rfl (.pick rfl rfl rfl) ?_
  refine .step rfl (.move rfl rfl) ?_
  refine .go 59 rfl rfl rfl rfl (.move rfl rfl) ?_
  refine .go 59 rfl rfl rfl rfl (.binv (.bool true) rfl rfl rfl rfl (rfl)) ?_
  refine .step rfl (.pick rfl rfl rfl) ?_
  refine .step rfl (.move rfl rfl) ?_
  refine .go 63 rfl rfl rfl rfl (.move rfl rfl) ?_
  refine .go 63 rfl rfl rfl rfl (.binv (.bool true) rfl rfl rfl rfl (rfl)) ?_
  refine .step rfl (.pick rfl rfl rfl) ?_
  refine .step rfl (.move rfl rfl) ?_
  refine .go 67 rfl rfl rfl rfl (.move rfl rfl) ?_
  refine .go 67 rfl rfl rfl rfl (.binv (.bool true) rfl rfl rfl rfl (rfl)) ?_
  refine .step rfl (.pick rfl rfl rfl) ?_
  refine .step rfl (.move rfl rfl) ?_
  refine .go 71 rfl rfl rfl rfl (.move rfl rfl) ?_
  refine .go 71 rfl rfl rfl rfl (.binv (.bool true) rfl rfl rfl rfl (rfl)) ?_
  refine .step rfl (.pick rfl rfl rfl) ?_
  refine .step rfl (.move rfl rfl) ?_
  refine .go 75 rfl rfl rfl rfl (.move rfl rfl) ?_
  refine .go 75 rfl rfl rfl rfl (.fieldp rfl rfl rfl rfl fo27_2) ?_
  refine .go 75 rfl rfl rfl rfl (.ldp rfl rfl rfl rfl rfl tk23) ?_
  refine .go 75 rfl rfl rfl rfl (.binv (.bool true) rfl rfl rfl rfl (congrArg Value.bool (decide_eq_true (by rw [seatU_key]; rfl)))) ?_
  refine .step rfl (.pick rfl rfl rfl) ?_
  refine .step rfl (.move rfl rfl) ?_
  refine .step rfl (.pick rfl rfl rfl) ?_
  refine .step rfl (.assign rfl rfl) ?_
  refine .nil ?_
  refine .next ?_
  refine .ret ?_
  exact TE.retf rfl rfl rfl trivial

end Go.Proofs.Ytkkgjmfnlabbdaa
