/-
  No cell of these rows narrows 'for every input' (looked for: loops, veiled, ifaces, maps, wideKeys, modest, calm, conditions, laid).
  DERIVED. THE GIVEN ROWS OF THIS SEAT. 5 by the template 'for every input the law returns true; each argument reads behind the call as it read before'; 0 by the template 'total and deterministic' (their statements: YtebepjgopmaogaaTotals.lean).
  GIVEN WITH THE SEED: the statements are not yours to turn. If you find one false, say at which input.
  Laid BY PROGRAM, IN A SANDBOX (cutbox-rows.mjs): the forced cells as the released guide's own fill.sh prints them over the translation 787caadef4b82a59… (all of the seat's roots in one cut). By AI agents, Wed Nov 11 2026. No macro, syntax, notation, axiom, sorry.
-/
import Derived.Test.YtebepjgopmaogaaChecked
import GoSem.Claim
import GoSem.ClaimJoined
import GoSem.ClaimMapViews
import Derived.JoinedTies
import Derived.KernelRfl
namespace Go.Proofs.Ytebepjgopmaogaa
/- THE CELL 'sum', in the pinned program and in every row, IS THE sha256 OF THE DUMP (.gsa) THAT YtebepjgopmaogaaProg.lean LOADS. Nothing in Lean hashes anything: it is a label: what it is worth is what the hold of that sum in a sandbox is worth. -/
noncomputable def Try.pinned : Pinned := { name := "ytebepjgopmaogaa", sum := "787caadef4b82a59f9812ae3d04c27423d1d0774f5074f853810f8bb87377d77", checked := Try.checked }
namespace Rows
def none {H : Type} : Left H := { results := [], args := [] }

/-- 'postmarklaw4.SigsTell': WHATEVER THE INPUT: true; the input reads as it did. -/
def sigsTellSpec : ChangeSpec := { name := "sigsTell", fn := fun _ => fun
  | [d1, d2, d3, d4, d5, d6] => { results := [.lit (.bool true)], args := [d1, d2, d3, d4, d5, d6] }
  | _ => none }
def sigsTellRow : OpenClaim := { program := "ytebepjgopmaogaa", sum := "787caadef4b82a59f9812ae3d04c27423d1d0774f5074f853810f8bb87377d77", func := "postmark/postmarklaw4.SigsTell", spec := "sigsTell", named := ["math/bits.divideError", "math/bits.overflowError"], apart := false }
def SigsTellSaid : Prop := sigsTellRow.holds Try.pinned (OpenSpec.ofChange sigsTellSpec)

/-- ITS FALSE NEIGHBOUR: 'it returns false'. Refute it at one input. -/
def sigsTellWrong : ChangeSpec := { name := "sigsTell", fn := fun _ => fun
  | [d1, d2, d3, d4, d5, d6] => { results := [.lit (.bool false)], args := [d1, d2, d3, d4, d5, d6] }
  | _ => none }
def SigsTellWrongFalsely : Prop := sigsTellRow.holds Try.pinned (OpenSpec.ofChange sigsTellWrong)

/-- 'postmarklaw4.SigsOne': WHATEVER THE INPUT: true; the input reads as it did. -/
def sigsOneSpec : ChangeSpec := { name := "sigsOne", fn := fun _ => fun
  | [d1, d2, d3] => { results := [.lit (.bool true)], args := [d1, d2, d3] }
  | _ => none }
def sigsOneRow : OpenClaim := { program := "ytebepjgopmaogaa", sum := "787caadef4b82a59f9812ae3d04c27423d1d0774f5074f853810f8bb87377d77", func := "postmark/postmarklaw4.SigsOne", spec := "sigsOne", named := ["math/bits.divideError", "math/bits.overflowError"], apart := false }
def SigsOneSaid : Prop := sigsOneRow.holds Try.pinned (OpenSpec.ofChange sigsOneSpec)

/-- ITS FALSE NEIGHBOUR: 'it returns false'. Refute it at one input. -/
def sigsOneWrong : ChangeSpec := { name := "sigsOne", fn := fun _ => fun
  | [d1, d2, d3] => { results := [.lit (.bool false)], args := [d1, d2, d3] }
  | _ => none }
def SigsOneWrongFalsely : Prop := sigsOneRow.holds Try.pinned (OpenSpec.ofChange sigsOneWrong)

/-- 'postmarklaw4.SigsAdd': WHATEVER THE INPUT: true; the input reads as it did. -/
def sigsAddSpec : ChangeSpec := { name := "sigsAdd", fn := fun _ => fun
  | [d1, d2] => { results := [.lit (.bool true)], args := [d1, d2] }
  | _ => none }
def sigsAddRow : OpenClaim := { program := "ytebepjgopmaogaa", sum := "787caadef4b82a59f9812ae3d04c27423d1d0774f5074f853810f8bb87377d77", func := "postmark/postmarklaw4.SigsAdd", spec := "sigsAdd", named := ["math/bits.divideError", "math/bits.overflowError"], apart := false }
def SigsAddSaid : Prop := sigsAddRow.holds Try.pinned (OpenSpec.ofChange sigsAddSpec)

/-- ITS FALSE NEIGHBOUR: 'it returns false'. Refute it at one input. -/
def sigsAddWrong : ChangeSpec := { name := "sigsAdd", fn := fun _ => fun
  | [d1, d2] => { results := [.lit (.bool false)], args := [d1, d2] }
  | _ => none }
def SigsAddWrongFalsely : Prop := sigsAddRow.holds Try.pinned (OpenSpec.ofChange sigsAddWrong)

/-- 'postmarklaw4.SigsWhole': WHATEVER THE INPUT: true; the input reads as it did. -/
def sigsWholeSpec : ChangeSpec := { name := "sigsWhole", fn := fun _ => fun
  | [d1, d2] => { results := [.lit (.bool true)], args := [d1, d2] }
  | _ => none }
def sigsWholeRow : OpenClaim := { program := "ytebepjgopmaogaa", sum := "787caadef4b82a59f9812ae3d04c27423d1d0774f5074f853810f8bb87377d77", func := "postmark/postmarklaw4.SigsWhole", spec := "sigsWhole", named := ["math/bits.divideError", "math/bits.overflowError"], apart := false }
def SigsWholeSaid : Prop := sigsWholeRow.holds Try.pinned (OpenSpec.ofChange sigsWholeSpec)

/-- ITS FALSE NEIGHBOUR: 'it returns false'. Refute it at one input. -/
def sigsWholeWrong : ChangeSpec := { name := "sigsWhole", fn := fun _ => fun
  | [d1, d2] => { results := [.lit (.bool false)], args := [d1, d2] }
  | _ => none }
def SigsWholeWrongFalsely : Prop := sigsWholeRow.holds Try.pinned (OpenSpec.ofChange sigsWholeWrong)

/-- 'postmarklaw4.SigsBounds': WHATEVER THE INPUT: true; the input reads as it did. -/
def sigsBoundsSpec : ChangeSpec := { name := "sigsBounds", fn := fun _ => fun
  | [d1, d2, d3] => { results := [.lit (.bool true)], args := [d1, d2, d3] }
  | _ => none }
def sigsBoundsRow : OpenClaim := { program := "ytebepjgopmaogaa", sum := "787caadef4b82a59f9812ae3d04c27423d1d0774f5074f853810f8bb87377d77", func := "postmark/postmarklaw4.SigsBounds", spec := "sigsBounds", named := ["math/bits.divideError", "math/bits.overflowError"], apart := false }
def SigsBoundsSaid : Prop := sigsBoundsRow.holds Try.pinned (OpenSpec.ofChange sigsBoundsSpec)

/-- ITS FALSE NEIGHBOUR: 'it returns false'. Refute it at one input. -/
def sigsBoundsWrong : ChangeSpec := { name := "sigsBounds", fn := fun _ => fun
  | [d1, d2, d3] => { results := [.lit (.bool false)], args := [d1, d2, d3] }
  | _ => none }
def SigsBoundsWrongFalsely : Prop := sigsBoundsRow.holds Try.pinned (OpenSpec.ofChange sigsBoundsWrong)

/- THE SECOND FORM. 'bulk': how many values and letters a reading holds, each counted each time it is reached (what is shared counts as often as it is met; a slice's spare places count too). A statement '..UptoSaid' is the law's where the arguments, and the package variables that the reading takes, are together of bulk at most 1048576: NARROWER than '..Said'. Prove '..Said' where nothing that the law and all that it calls make is longer than what came in: it says more and counts as full. Else prove '..UptoSaid'. A law counts once. -/
mutual
def uptoBulk {H : Type} : DataW H → Nat
  | .lit (.string bytes) => bytes.length + 1
  | .lit _ => 1
  | .nil => 1
  | .ptr d => uptoBulk d + 1
  | .slice elems spare => uptoBulkAll elems + uptoBulkAll spare + 1
  | .agg parts => uptoBulkAll parts + 1
  | .iface _ d => uptoBulk d + 1
  | .map entries => uptoBulkEntries entries + 1
  | .held _ => 1
def uptoBulkAll {H : Type} : List (DataW H) → Nat
  | [] => 0
  | d :: r => uptoBulk d + uptoBulkAll r
def uptoBulkEntries {H : Type} : List (Lit × DataW H) → Nat
  | [] => 0
  | x :: r => uptoBulkEntry x + uptoBulkEntries r
def uptoBulkEntry {H : Type} : Lit × DataW H → Nat
  | (.string bytes, d) => bytes.length + uptoBulk d + 1
  | (_, d) => uptoBulk d + 1
 end
def uptoSmall : (H : Type) → List (DataW H) → Bool := fun _ ds => decide (uptoBulkAll ds ≤ 1048576)
def OpenSpec.upto (s : _root_.Go.ChangeSpec) : _root_.Go.OpenSpec := { _root_.Go.OpenSpec.ofChange s with cond := some uptoSmall }

/-- 'postmarklaw4.SigsTell', WHERE WHAT IT READS IS OF BULK AT MOST 1048576: true; the input reads as it did. -/
def sigsTellUptoRow : OpenClaim := { program := "ytebepjgopmaogaa", sum := "787caadef4b82a59f9812ae3d04c27423d1d0774f5074f853810f8bb87377d77", func := "postmark/postmarklaw4.SigsTell", spec := "sigsTell", named := ["math/bits.divideError", "math/bits.overflowError"], apart := false, narrowed := true }
def SigsTellUptoSaid : Prop := sigsTellUptoRow.holds Try.pinned (OpenSpec.upto sigsTellSpec)

/-- 'postmarklaw4.SigsOne', WHERE WHAT IT READS IS OF BULK AT MOST 1048576: true; the input reads as it did. -/
def sigsOneUptoRow : OpenClaim := { program := "ytebepjgopmaogaa", sum := "787caadef4b82a59f9812ae3d04c27423d1d0774f5074f853810f8bb87377d77", func := "postmark/postmarklaw4.SigsOne", spec := "sigsOne", named := ["math/bits.divideError", "math/bits.overflowError"], apart := false, narrowed := true }
def SigsOneUptoSaid : Prop := sigsOneUptoRow.holds Try.pinned (OpenSpec.upto sigsOneSpec)

/-- 'postmarklaw4.SigsAdd', WHERE WHAT IT READS IS OF BULK AT MOST 1048576: true; the input reads as it did. -/
def sigsAddUptoRow : OpenClaim := { program := "ytebepjgopmaogaa", sum := "787caadef4b82a59f9812ae3d04c27423d1d0774f5074f853810f8bb87377d77", func := "postmark/postmarklaw4.SigsAdd", spec := "sigsAdd", named := ["math/bits.divideError", "math/bits.overflowError"], apart := false, narrowed := true }
def SigsAddUptoSaid : Prop := sigsAddUptoRow.holds Try.pinned (OpenSpec.upto sigsAddSpec)

/-- 'postmarklaw4.SigsWhole', WHERE WHAT IT READS IS OF BULK AT MOST 1048576: true; the input reads as it did. -/
def sigsWholeUptoRow : OpenClaim := { program := "ytebepjgopmaogaa", sum := "787caadef4b82a59f9812ae3d04c27423d1d0774f5074f853810f8bb87377d77", func := "postmark/postmarklaw4.SigsWhole", spec := "sigsWhole", named := ["math/bits.divideError", "math/bits.overflowError"], apart := false, narrowed := true }
def SigsWholeUptoSaid : Prop := sigsWholeUptoRow.holds Try.pinned (OpenSpec.upto sigsWholeSpec)

/-- 'postmarklaw4.SigsBounds', WHERE WHAT IT READS IS OF BULK AT MOST 1048576: true; the input reads as it did. -/
def sigsBoundsUptoRow : OpenClaim := { program := "ytebepjgopmaogaa", sum := "787caadef4b82a59f9812ae3d04c27423d1d0774f5074f853810f8bb87377d77", func := "postmark/postmarklaw4.SigsBounds", spec := "sigsBounds", named := ["math/bits.divideError", "math/bits.overflowError"], apart := false, narrowed := true }
def SigsBoundsUptoSaid : Prop := sigsBoundsUptoRow.holds Try.pinned (OpenSpec.upto sigsBoundsSpec)

end Rows
end Go.Proofs.Ytebepjgopmaogaa
