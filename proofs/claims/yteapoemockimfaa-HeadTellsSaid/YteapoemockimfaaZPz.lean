/-
  A logic of walks: a range over a function: the loop's record as an object, rounds, the end of a function that held one.
-/
import Derived.Test.YteapoemockimfaaZPy
namespace Go.Proofs.Yteapoemockimfaa.Pl
set_option linter.unusedVariables false
set_option linter.unusedSimpArgs false
open Go.RowKit
section
variable {P : Program} {C : Cx} {M : Fm} {Q : Exit → Act → World → Prop} {L : Lo} {Γ : Ga} {a : Act} {w : World}
theorem TCF.map {c : Code} {L' : Lo} {Γ' : Ga} (h : ∀ a w, Reps C L Γ a w → Reps C L' Γ' a w) (k : TCF M P C c Q L' Γ') : TCF M P C c Q L Γ := ⟨k.1, fun a w hr hf => k.2 a w (h a w hr) hf⟩
end
end Go.Proofs.Yteapoemockimfaa.Pl

