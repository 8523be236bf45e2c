/-
  No cell of these rows narrows 'for every input' (looked for: loops, veiled, ifaces, maps, wideKeys, modest, calm, conditions, laid).
  DERIVED. THE GIVEN ROWS OF THIS SEAT. 4 by the template 'for every input the law returns true; each argument reads behind the call as it read before'; 0 by the template 'total and deterministic' (their statements: YthbcbfghfhecjaaTotals.lean).
  GIVEN WITH THE SEED: the statements are not yours to turn. If you find one false, say at which input.
  Laid BY PROGRAM, IN A SANDBOX (cutbox-rows.mjs): the forced cells as the released guide's own fill.sh prints them over the translation 48d179781b6a2b2d… (all of the seat's roots in one cut). By AI agents, Wed Nov 11 2026. No macro, syntax, notation, axiom, sorry.
-/
import Derived.Test.YthbcbfghfhecjaaChecked
import GoSem.Claim
import GoSem.ClaimJoined
import GoSem.ClaimMapViews
import Derived.JoinedTies
import Derived.KernelRfl
namespace Go.Proofs.Ythbcbfghfhecjaa
/- THE CELL 'sum', in the pinned program and in every row, IS THE sha256 OF THE DUMP (.gsa) THAT YthbcbfghfhecjaaProg.lean LOADS. Nothing in Lean hashes anything: it is a label: what it is worth is what the hold of that sum in a sandbox is worth. -/
noncomputable def Try.pinned : Pinned := { name := "ythbcbfghfhecjaa", sum := "48d179781b6a2b2d889f960c3a2ade97d96efc28fc90e20456f543838ac42db1", checked := Try.checked }
namespace Rows
def none {H : Type} : Left H := { results := [], args := [] }

/-- 'postmarklaw6.TreeTells': WHATEVER THE INPUT: true; the input reads as it did. -/
def treeTellsSpec : ChangeSpec := { name := "treeTells", fn := fun _ => fun
  | [d1, d2, d3, d4, d5, d6, d7, d8, d9] => { results := [.lit (.bool true)], args := [d1, d2, d3, d4, d5, d6, d7, d8, d9] }
  | _ => none }
def treeTellsRow : OpenClaim := { program := "ythbcbfghfhecjaa", sum := "48d179781b6a2b2d889f960c3a2ade97d96efc28fc90e20456f543838ac42db1", func := "postmark/postmarklaw6.TreeTells", spec := "treeTells", inPlace := ["internal/bytealg.Compare"], unfollowed := true, recurses := true, apart := false }
def TreeTellsSaid : Prop := treeTellsRow.holds Try.pinned (OpenSpec.ofChange treeTellsSpec)

/-- ITS FALSE NEIGHBOUR: 'it returns false'. Refute it at one input. -/
def treeTellsWrong : ChangeSpec := { name := "treeTells", fn := fun _ => fun
  | [d1, d2, d3, d4, d5, d6, d7, d8, d9] => { results := [.lit (.bool false)], args := [d1, d2, d3, d4, d5, d6, d7, d8, d9] }
  | _ => none }
def TreeTellsWrongFalsely : Prop := treeTellsRow.holds Try.pinned (OpenSpec.ofChange treeTellsWrong)

/-- 'postmarklaw6.TreeOrder': WHATEVER THE INPUT: true; the input reads as it did. -/
def treeOrderSpec : ChangeSpec := { name := "treeOrder", fn := fun _ => fun
  | [d1, d2] => { results := [.lit (.bool true)], args := [d1, d2] }
  | _ => none }
def treeOrderRow : OpenClaim := { program := "ythbcbfghfhecjaa", sum := "48d179781b6a2b2d889f960c3a2ade97d96efc28fc90e20456f543838ac42db1", func := "postmark/postmarklaw6.TreeOrder", spec := "treeOrder", inPlace := ["internal/bytealg.Compare"], unfollowed := true, recurses := true, apart := false }
def TreeOrderSaid : Prop := treeOrderRow.holds Try.pinned (OpenSpec.ofChange treeOrderSpec)

/-- ITS FALSE NEIGHBOUR: 'it returns false'. Refute it at one input. -/
def treeOrderWrong : ChangeSpec := { name := "treeOrder", fn := fun _ => fun
  | [d1, d2] => { results := [.lit (.bool false)], args := [d1, d2] }
  | _ => none }
def TreeOrderWrongFalsely : Prop := treeOrderRow.holds Try.pinned (OpenSpec.ofChange treeOrderWrong)

/-- 'postmarklaw6.TreeHalves': WHATEVER THE INPUT: true; the input reads as it did. -/
def treeHalvesSpec : ChangeSpec := { name := "treeHalves", fn := fun _ => fun
  | [d] => { results := [.lit (.bool true)], args := [d] }
  | _ => none }
def treeHalvesRow : OpenClaim := { program := "ythbcbfghfhecjaa", sum := "48d179781b6a2b2d889f960c3a2ade97d96efc28fc90e20456f543838ac42db1", func := "postmark/postmarklaw6.TreeHalves", spec := "treeHalves", inPlace := ["internal/bytealg.Compare"], unfollowed := true, recurses := true, apart := false }
def TreeHalvesSaid : Prop := treeHalvesRow.holds Try.pinned (OpenSpec.ofChange treeHalvesSpec)

/-- ITS FALSE NEIGHBOUR: 'it returns false'. Refute it at one input. -/
def treeHalvesWrong : ChangeSpec := { name := "treeHalves", fn := fun _ => fun
  | [d] => { results := [.lit (.bool false)], args := [d] }
  | _ => none }
def TreeHalvesWrongFalsely : Prop := treeHalvesRow.holds Try.pinned (OpenSpec.ofChange treeHalvesWrong)

/-- 'postmarklaw6.TreeBits': WHATEVER THE INPUT: true; the input reads as it did. -/
def treeBitsSpec : ChangeSpec := { name := "treeBits", fn := fun _ => fun
  | [d] => { results := [.lit (.bool true)], args := [d] }
  | _ => none }
def treeBitsRow : OpenClaim := { program := "ythbcbfghfhecjaa", sum := "48d179781b6a2b2d889f960c3a2ade97d96efc28fc90e20456f543838ac42db1", func := "postmark/postmarklaw6.TreeBits", spec := "treeBits", inPlace := ["internal/bytealg.Compare"], unfollowed := true, recurses := true, apart := false }
def TreeBitsSaid : Prop := treeBitsRow.holds Try.pinned (OpenSpec.ofChange treeBitsSpec)

/-- ITS FALSE NEIGHBOUR: 'it returns false'. Refute it at one input. -/
def treeBitsWrong : ChangeSpec := { name := "treeBits", fn := fun _ => fun
  | [d] => { results := [.lit (.bool false)], args := [d] }
  | _ => none }
def TreeBitsWrongFalsely : Prop := treeBitsRow.holds Try.pinned (OpenSpec.ofChange treeBitsWrong)

/- THE SECOND FORM. 'bulk': how many values and letters a reading holds, each counted each time it is reached (what is shared counts as often as it is met; a slice's spare places count too). A statement '..UptoSaid' is the law's where the arguments, and the package variables that the reading takes, are together of bulk at most 1048576: NARROWER than '..Said'. Prove '..Said' where nothing that the law and all that it calls make is longer than what came in: it says more and counts as full. Else prove '..UptoSaid'. A law counts once. -/
mutual
def uptoBulk {H : Type} : DataW H → Nat
  | .lit (.string bytes) => bytes.length + 1
  | .lit _ => 1
  | .nil => 1
  | .ptr d => uptoBulk d + 1
  | .slice elems spare => uptoBulkAll elems + uptoBulkAll spare + 1
  | .agg parts => uptoBulkAll parts + 1
  | .iface _ d => uptoBulk d + 1
  | .map entries => uptoBulkEntries entries + 1
  | .held _ => 1
def uptoBulkAll {H : Type} : List (DataW H) → Nat
  | [] => 0
  | d :: r => uptoBulk d + uptoBulkAll r
def uptoBulkEntries {H : Type} : List (Lit × DataW H) → Nat
  | [] => 0
  | x :: r => uptoBulkEntry x + uptoBulkEntries r
def uptoBulkEntry {H : Type} : Lit × DataW H → Nat
  | (.string bytes, d) => bytes.length + uptoBulk d + 1
  | (_, d) => uptoBulk d + 1
 end
def uptoSmall : (H : Type) → List (DataW H) → Bool := fun _ ds => decide (uptoBulkAll ds ≤ 1048576)
def OpenSpec.upto (s : _root_.Go.ChangeSpec) : _root_.Go.OpenSpec := { _root_.Go.OpenSpec.ofChange s with cond := some uptoSmall }

/-- 'postmarklaw6.TreeTells', WHERE WHAT IT READS IS OF BULK AT MOST 1048576: true; the input reads as it did. -/
def treeTellsUptoRow : OpenClaim := { program := "ythbcbfghfhecjaa", sum := "48d179781b6a2b2d889f960c3a2ade97d96efc28fc90e20456f543838ac42db1", func := "postmark/postmarklaw6.TreeTells", spec := "treeTells", inPlace := ["internal/bytealg.Compare"], unfollowed := true, recurses := true, apart := false, narrowed := true }
def TreeTellsUptoSaid : Prop := treeTellsUptoRow.holds Try.pinned (OpenSpec.upto treeTellsSpec)

/-- 'postmarklaw6.TreeOrder', WHERE WHAT IT READS IS OF BULK AT MOST 1048576: true; the input reads as it did. -/
def treeOrderUptoRow : OpenClaim := { program := "ythbcbfghfhecjaa", sum := "48d179781b6a2b2d889f960c3a2ade97d96efc28fc90e20456f543838ac42db1", func := "postmark/postmarklaw6.TreeOrder", spec := "treeOrder", inPlace := ["internal/bytealg.Compare"], unfollowed := true, recurses := true, apart := false, narrowed := true }
def TreeOrderUptoSaid : Prop := treeOrderUptoRow.holds Try.pinned (OpenSpec.upto treeOrderSpec)

/-- 'postmarklaw6.TreeHalves', WHERE WHAT IT READS IS OF BULK AT MOST 1048576: true; the input reads as it did. -/
def treeHalvesUptoRow : OpenClaim := { program := "ythbcbfghfhecjaa", sum := "48d179781b6a2b2d889f960c3a2ade97d96efc28fc90e20456f543838ac42db1", func := "postmark/postmarklaw6.TreeHalves", spec := "treeHalves", inPlace := ["internal/bytealg.Compare"], unfollowed := true, recurses := true, apart := false, narrowed := true }
def TreeHalvesUptoSaid : Prop := treeHalvesUptoRow.holds Try.pinned (OpenSpec.upto treeHalvesSpec)

/-- 'postmarklaw6.TreeBits', WHERE WHAT IT READS IS OF BULK AT MOST 1048576: true; the input reads as it did. -/
def treeBitsUptoRow : OpenClaim := { program := "ythbcbfghfhecjaa", sum := "48d179781b6a2b2d889f960c3a2ade97d96efc28fc90e20456f543838ac42db1", func := "postmark/postmarklaw6.TreeBits", spec := "treeBits", inPlace := ["internal/bytealg.Compare"], unfollowed := true, recurses := true, apart := false, narrowed := true }
def TreeBitsUptoSaid : Prop := treeBitsUptoRow.holds Try.pinned (OpenSpec.upto treeBitsSpec)

end Rows
end Go.Proofs.Ythbcbfghfhecjaa
