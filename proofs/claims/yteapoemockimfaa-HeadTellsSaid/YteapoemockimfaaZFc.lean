/-
  A logic of walks: appends to a named row; a drawn region whose last operation stands behind all others.
-/
import Derived.Test.YteapoemockimfaaZFb
namespace Go.Proofs.Yteapoemockimfaa.Pl
set_option linter.unusedVariables false
set_option linter.unusedSimpArgs false
open Go.RowKit
section
variable {P : Program} {C : Cx} {L : Lo} {Γ : Ga} {d : Nat} {ty : TypeId} {pos : String} {af : Array Edge} {gd : Option (Nat × Bool)}
end
section
variable {P : Program} {C : Cx} {Q : Exit → Act → World → Prop} {L : Lo} {Γ : Ga}
section
variable {l : List Oper} {last : Oper}
end
end
end Go.Proofs.Yteapoemockimfaa.Pl

