/-
  Knowledge compared, items compared.
-/
import Derived.Test.YteapoemockimfaaZIj
import Derived.Test.YteapoemockimfaaZEv
namespace Go.Proofs.Yteapoemockimfaa
set_option linter.unusedVariables false
set_option linter.unusedSimpArgs false
open Go.RowKit Pl
set_option maxRecDepth 100000
set_option maxHeartbeats 3200000
section
variable {P : Program} {C : Cx} {L : Lo} {Γ : Ga} {d : Nat} {ty : TypeId} {pos : String} {af : Array Edge} {gd : Option (Nat × Bool)}
def Kn.us (k : Kn) : List Value := [strV k.nm, .int .i64 k.ver, .int .u64 k.key, .int .i64 k.ep]
def En.us (e : En) : List Value := [strV e.nm, .int .i64 e.ver, .int .u64 e.key]
theorem kwf_i64 {n : Int} (h : -9223372036854775808 ≤ n ∧ n < 9223372036854775808) : (Lit.int .i64 n).wf = true := by
  simp [Lit.wf, IntKind.min, IntKind.max, IntKind.signed, IntKind.bits]; omega
theorem kwf_u64 {n : Int} (h : 0 ≤ n ∧ n < 18446744073709551616) : (Lit.int .u64 n).wf = true := by
  simp [Lit.wf, IntKind.min, IntKind.max, IntKind.signed, IntKind.bits]; omega
end
end Go.Proofs.Yteapoemockimfaa

