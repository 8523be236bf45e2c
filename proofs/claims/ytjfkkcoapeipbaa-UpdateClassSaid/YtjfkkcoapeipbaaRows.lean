/-
  No cell of these rows narrows 'for every input' (looked for: loops, veiled, ifaces, maps, wideKeys, modest, calm, conditions, laid).
  DERIVED. THE GIVEN ROWS OF THIS SEAT. 4 by the template 'for every input the law returns true; each argument reads behind the call as it read before'; 0 by the template 'total and deterministic' (their statements: YtjfkkcoapeipbaaTotals.lean).
  GIVEN WITH THE SEED: the statements are not yours to turn. If you find one false, say at which input.
  Laid BY PROGRAM, IN A SANDBOX (cutbox-rows.mjs): the forced cells as the released guide's own fill.sh prints them over the translation eca804002fc52905… (all of the seat's roots in one cut). By AI agents, Wed Nov 11 2026. No macro, syntax, notation, axiom, sorry.
-/
import Derived.Test.YtjfkkcoapeipbaaChecked
import GoSem.Claim
import GoSem.ClaimJoined
import GoSem.ClaimMapViews
import Derived.JoinedTies
import Derived.KernelRfl
namespace Go.Proofs.Ytjfkkcoapeipbaa
/- THE CELL 'sum', in the pinned program and in every row, IS THE sha256 OF THE DUMP (.gsa) THAT YtjfkkcoapeipbaaProg.lean LOADS. Nothing in Lean hashes anything: it is a label: what it is worth is what the hold of that sum in a sandbox is worth. -/
noncomputable def Try.pinned : Pinned := { name := "ytjfkkcoapeipbaa", sum := "eca804002fc52905df030e5640ba5053feb67a62f8db5f10dac88b6e5dded95e", checked := Try.checked }
namespace Rows
def none {H : Type} : Left H := { results := [], args := [] }

/-- 'postmarklaw5.UpdateReads': WHATEVER THE INPUT: true; the input reads as it did. -/
def updateReadsSpec : ChangeSpec := { name := "updateReads", fn := fun _ => fun
  | [d1, d2, d3, d4, d5, d6, d7] => { results := [.lit (.bool true)], args := [d1, d2, d3, d4, d5, d6, d7] }
  | _ => none }
def updateReadsRow : OpenClaim := { program := "ytjfkkcoapeipbaa", sum := "eca804002fc52905df030e5640ba5053feb67a62f8db5f10dac88b6e5dded95e", func := "postmark/postmarklaw5.UpdateReads", spec := "updateReads", named := ["math/bits.divideError", "math/bits.overflowError"], apart := false }
def UpdateReadsSaid : Prop := updateReadsRow.holds Try.pinned (OpenSpec.ofChange updateReadsSpec)

/-- ITS FALSE NEIGHBOUR: 'it returns false'. Refute it at one input. -/
def updateReadsWrong : ChangeSpec := { name := "updateReads", fn := fun _ => fun
  | [d1, d2, d3, d4, d5, d6, d7] => { results := [.lit (.bool false)], args := [d1, d2, d3, d4, d5, d6, d7] }
  | _ => none }
def UpdateReadsWrongFalsely : Prop := updateReadsRow.holds Try.pinned (OpenSpec.ofChange updateReadsWrong)

/-- 'postmarklaw5.UpdateTells': WHATEVER THE INPUT: true; the input reads as it did. -/
def updateTellsSpec : ChangeSpec := { name := "updateTells", fn := fun _ => fun
  | [d1, d2, d3, d4, d5, d6, d7, d8, d9, d10] => { results := [.lit (.bool true)], args := [d1, d2, d3, d4, d5, d6, d7, d8, d9, d10] }
  | _ => none }
def updateTellsRow : OpenClaim := { program := "ytjfkkcoapeipbaa", sum := "eca804002fc52905df030e5640ba5053feb67a62f8db5f10dac88b6e5dded95e", func := "postmark/postmarklaw5.UpdateTells", spec := "updateTells", named := ["math/bits.divideError", "math/bits.overflowError"], apart := false }
def UpdateTellsSaid : Prop := updateTellsRow.holds Try.pinned (OpenSpec.ofChange updateTellsSpec)

/-- ITS FALSE NEIGHBOUR: 'it returns false'. Refute it at one input. -/
def updateTellsWrong : ChangeSpec := { name := "updateTells", fn := fun _ => fun
  | [d1, d2, d3, d4, d5, d6, d7, d8, d9, d10] => { results := [.lit (.bool false)], args := [d1, d2, d3, d4, d5, d6, d7, d8, d9, d10] }
  | _ => none }
def UpdateTellsWrongFalsely : Prop := updateTellsRow.holds Try.pinned (OpenSpec.ofChange updateTellsWrong)

/-- 'postmarklaw5.UpdateChain': WHATEVER THE INPUT: true; the input reads as it did. -/
def updateChainSpec : ChangeSpec := { name := "updateChain", fn := fun _ => fun
  | [d1, d2] => { results := [.lit (.bool true)], args := [d1, d2] }
  | _ => none }
def updateChainRow : OpenClaim := { program := "ytjfkkcoapeipbaa", sum := "eca804002fc52905df030e5640ba5053feb67a62f8db5f10dac88b6e5dded95e", func := "postmark/postmarklaw5.UpdateChain", spec := "updateChain", named := ["math/bits.divideError", "math/bits.overflowError"], apart := false }
def UpdateChainSaid : Prop := updateChainRow.holds Try.pinned (OpenSpec.ofChange updateChainSpec)

/-- ITS FALSE NEIGHBOUR: 'it returns false'. Refute it at one input. -/
def updateChainWrong : ChangeSpec := { name := "updateChain", fn := fun _ => fun
  | [d1, d2] => { results := [.lit (.bool false)], args := [d1, d2] }
  | _ => none }
def UpdateChainWrongFalsely : Prop := updateChainRow.holds Try.pinned (OpenSpec.ofChange updateChainWrong)

/-- 'postmarklaw5.UpdateClass': WHATEVER THE INPUT: true; the input reads as it did. -/
def updateClassSpec : ChangeSpec := { name := "updateClass", fn := fun _ => fun
  | [d1, d2, d3] => { results := [.lit (.bool true)], args := [d1, d2, d3] }
  | _ => none }
def updateClassRow : OpenClaim := { program := "ytjfkkcoapeipbaa", sum := "eca804002fc52905df030e5640ba5053feb67a62f8db5f10dac88b6e5dded95e", func := "postmark/postmarklaw5.UpdateClass", spec := "updateClass", named := ["math/bits.divideError", "math/bits.overflowError"], apart := false }
def UpdateClassSaid : Prop := updateClassRow.holds Try.pinned (OpenSpec.ofChange updateClassSpec)

/-- ITS FALSE NEIGHBOUR: 'it returns false'. Refute it at one input. -/
def updateClassWrong : ChangeSpec := { name := "updateClass", fn := fun _ => fun
  | [d1, d2, d3] => { results := [.lit (.bool false)], args := [d1, d2, d3] }
  | _ => none }
def UpdateClassWrongFalsely : Prop := updateClassRow.holds Try.pinned (OpenSpec.ofChange updateClassWrong)

/- THE SECOND FORM. 'bulk': how many values and letters a reading holds, each counted each time it is reached (what is shared counts as often as it is met; a slice's spare places count too). A statement '..UptoSaid' is the law's where the arguments, and the package variables that the reading takes, are together of bulk at most 1048576: NARROWER than '..Said'. Prove '..Said' where nothing that the law and all that it calls make is longer than what came in: it says more and counts as full. Else prove '..UptoSaid'. A law counts once. -/
mutual
def uptoBulk {H : Type} : DataW H → Nat
  | .lit (.string bytes) => bytes.length + 1
  | .lit _ => 1
  | .nil => 1
  | .ptr d => uptoBulk d + 1
  | .slice elems spare => uptoBulkAll elems + uptoBulkAll spare + 1
  | .agg parts => uptoBulkAll parts + 1
  | .iface _ d => uptoBulk d + 1
  | .map entries => uptoBulkEntries entries + 1
  | .held _ => 1
def uptoBulkAll {H : Type} : List (DataW H) → Nat
  | [] => 0
  | d :: r => uptoBulk d + uptoBulkAll r
def uptoBulkEntries {H : Type} : List (Lit × DataW H) → Nat
  | [] => 0
  | x :: r => uptoBulkEntry x + uptoBulkEntries r
def uptoBulkEntry {H : Type} : Lit × DataW H → Nat
  | (.string bytes, d) => bytes.length + uptoBulk d + 1
  | (_, d) => uptoBulk d + 1
 end
def uptoSmall : (H : Type) → List (DataW H) → Bool := fun _ ds => decide (uptoBulkAll ds ≤ 1048576)
def OpenSpec.upto (s : _root_.Go.ChangeSpec) : _root_.Go.OpenSpec := { _root_.Go.OpenSpec.ofChange s with cond := some uptoSmall }

/-- 'postmarklaw5.UpdateReads', WHERE WHAT IT READS IS OF BULK AT MOST 1048576: true; the input reads as it did. -/
def updateReadsUptoRow : OpenClaim := { program := "ytjfkkcoapeipbaa", sum := "eca804002fc52905df030e5640ba5053feb67a62f8db5f10dac88b6e5dded95e", func := "postmark/postmarklaw5.UpdateReads", spec := "updateReads", named := ["math/bits.divideError", "math/bits.overflowError"], apart := false, narrowed := true }
def UpdateReadsUptoSaid : Prop := updateReadsUptoRow.holds Try.pinned (OpenSpec.upto updateReadsSpec)

/-- 'postmarklaw5.UpdateTells', WHERE WHAT IT READS IS OF BULK AT MOST 1048576: true; the input reads as it did. -/
def updateTellsUptoRow : OpenClaim := { program := "ytjfkkcoapeipbaa", sum := "eca804002fc52905df030e5640ba5053feb67a62f8db5f10dac88b6e5dded95e", func := "postmark/postmarklaw5.UpdateTells", spec := "updateTells", named := ["math/bits.divideError", "math/bits.overflowError"], apart := false, narrowed := true }
def UpdateTellsUptoSaid : Prop := updateTellsUptoRow.holds Try.pinned (OpenSpec.upto updateTellsSpec)

/-- 'postmarklaw5.UpdateChain', WHERE WHAT IT READS IS OF BULK AT MOST 1048576: true; the input reads as it did. -/
def updateChainUptoRow : OpenClaim := { program := "ytjfkkcoapeipbaa", sum := "eca804002fc52905df030e5640ba5053feb67a62f8db5f10dac88b6e5dded95e", func := "postmark/postmarklaw5.UpdateChain", spec := "updateChain", named := ["math/bits.divideError", "math/bits.overflowError"], apart := false, narrowed := true }
def UpdateChainUptoSaid : Prop := updateChainUptoRow.holds Try.pinned (OpenSpec.upto updateChainSpec)

/-- 'postmarklaw5.UpdateClass', WHERE WHAT IT READS IS OF BULK AT MOST 1048576: true; the input reads as it did. -/
def updateClassUptoRow : OpenClaim := { program := "ytjfkkcoapeipbaa", sum := "eca804002fc52905df030e5640ba5053feb67a62f8db5f10dac88b6e5dded95e", func := "postmark/postmarklaw5.UpdateClass", spec := "updateClass", named := ["math/bits.divideError", "math/bits.overflowError"], apart := false, narrowed := true }
def UpdateClassUptoSaid : Prop := updateClassUptoRow.holds Try.pinned (OpenSpec.upto updateClassSpec)

end Rows
end Go.Proofs.Ytjfkkcoapeipbaa
