/-
  Requests: Put, the program's and the reference's; the bytes of any request.
-/
import Derived.Test.YtkkgjmfnlabbdaaUpM
namespace Go.Proofs.Ytkkgjmfnlabbdaa
set_option linter.unusedVariables false
set_option linter.unusedSimpArgs false
open Go.RowKit
attribute [local irreducible] checkF putF

/-- What Put tells. -/
def GivesPutU (w : World) (u : Up) (e : Ending) (w' : World) : Prop := ∃ v, e = .returned (.tuple #[v, .int .i64 (putUErr u)]) ∧ Rd w' v (putUOut u) ∧ Below w.heap.size w w'

end Go.Proofs.Ytkkgjmfnlabbdaa
