/-
  No cell of these rows narrows 'for every input' (looked for: loops, veiled, ifaces, maps, wideKeys, modest, calm, conditions, laid).
  DERIVED. THE GIVEN ROWS OF THIS SEAT. 6 by the template 'for every input the law returns true; each argument reads behind the call as it read before'; 0 by the template 'total and deterministic' (their statements: YtejhgijjegnmnaaTotals.lean).
  GIVEN WITH THE SEED: the statements are not yours to turn. If you find one false, say at which input.
  Laid BY PROGRAM, IN A SANDBOX (cutbox-rows.mjs): the forced cells as the released guide's own fill.sh prints them over the translation fd6bb665f26cf04c… (all of the seat's roots in one cut). By AI agents, Wed Nov 11 2026. No macro, syntax, notation, axiom, sorry.
-/
import Derived.Test.YtejhgijjegnmnaaChecked
import GoSem.Claim
import GoSem.ClaimJoined
import GoSem.ClaimMapViews
import Derived.JoinedTies
import Derived.KernelRfl
namespace Go.Proofs.Ytejhgijjegnmnaa
/- THE CELL 'sum', in the pinned program and in every row, IS THE sha256 OF THE DUMP (.gsa) THAT YtejhgijjegnmnaaProg.lean LOADS. Nothing in Lean hashes anything: it is a label: what it is worth is what the hold of that sum in a sandbox is worth. -/
noncomputable def Try.pinned : Pinned := { name := "ytejhgijjegnmnaa", sum := "fd6bb665f26cf04cbe38e30e67e36e138d5ab0e5b4d55464739b76eec74a10d5", checked := Try.checked }
namespace Rows
def none {H : Type} : Left H := { results := [], args := [] }

/-- 'postmarklaw7.ProofTells': WHATEVER THE INPUT: true; the input reads as it did. -/
def proofTellsSpec : ChangeSpec := { name := "proofTells", fn := fun _ => fun
  | [d1, d2, d3, d4, d5, d6, d7] => { results := [.lit (.bool true)], args := [d1, d2, d3, d4, d5, d6, d7] }
  | _ => none }
def proofTellsRow : OpenClaim := { program := "ytejhgijjegnmnaa", sum := "fd6bb665f26cf04cbe38e30e67e36e138d5ab0e5b4d55464739b76eec74a10d5", func := "postmark/postmarklaw7.ProofTells", spec := "proofTells", inPlace := ["internal/bytealg.Compare"], unfollowed := true, recurses := true, apart := false }
def ProofTellsSaid : Prop := proofTellsRow.holds Try.pinned (OpenSpec.ofChange proofTellsSpec)

/-- ITS FALSE NEIGHBOUR: 'it returns false'. Refute it at one input. -/
def proofTellsWrong : ChangeSpec := { name := "proofTells", fn := fun _ => fun
  | [d1, d2, d3, d4, d5, d6, d7] => { results := [.lit (.bool false)], args := [d1, d2, d3, d4, d5, d6, d7] }
  | _ => none }
def ProofTellsWrongFalsely : Prop := proofTellsRow.holds Try.pinned (OpenSpec.ofChange proofTellsWrong)

/-- 'postmarklaw7.ProofReads': WHATEVER THE INPUT: true; the input reads as it did. -/
def proofReadsSpec : ChangeSpec := { name := "proofReads", fn := fun _ => fun
  | [d1, d2, d3, d4, d5, d6, d7] => { results := [.lit (.bool true)], args := [d1, d2, d3, d4, d5, d6, d7] }
  | _ => none }
def proofReadsRow : OpenClaim := { program := "ytejhgijjegnmnaa", sum := "fd6bb665f26cf04cbe38e30e67e36e138d5ab0e5b4d55464739b76eec74a10d5", func := "postmark/postmarklaw7.ProofReads", spec := "proofReads", inPlace := ["internal/bytealg.Compare"], unfollowed := true, recurses := true, apart := false }
def ProofReadsSaid : Prop := proofReadsRow.holds Try.pinned (OpenSpec.ofChange proofReadsSpec)

/-- ITS FALSE NEIGHBOUR: 'it returns false'. Refute it at one input. -/
def proofReadsWrong : ChangeSpec := { name := "proofReads", fn := fun _ => fun
  | [d1, d2, d3, d4, d5, d6, d7] => { results := [.lit (.bool false)], args := [d1, d2, d3, d4, d5, d6, d7] }
  | _ => none }
def ProofReadsWrongFalsely : Prop := proofReadsRow.holds Try.pinned (OpenSpec.ofChange proofReadsWrong)

/-- 'postmarklaw7.ProofAll': WHATEVER THE INPUT: true; the input reads as it did. -/
def proofAllSpec : ChangeSpec := { name := "proofAll", fn := fun _ => fun
  | [d1, d2] => { results := [.lit (.bool true)], args := [d1, d2] }
  | _ => none }
def proofAllRow : OpenClaim := { program := "ytejhgijjegnmnaa", sum := "fd6bb665f26cf04cbe38e30e67e36e138d5ab0e5b4d55464739b76eec74a10d5", func := "postmark/postmarklaw7.ProofAll", spec := "proofAll", inPlace := ["internal/bytealg.Compare"], unfollowed := true, recurses := true, apart := false }
def ProofAllSaid : Prop := proofAllRow.holds Try.pinned (OpenSpec.ofChange proofAllSpec)

/-- ITS FALSE NEIGHBOUR: 'it returns false'. Refute it at one input. -/
def proofAllWrong : ChangeSpec := { name := "proofAll", fn := fun _ => fun
  | [d1, d2] => { results := [.lit (.bool false)], args := [d1, d2] }
  | _ => none }
def ProofAllWrongFalsely : Prop := proofAllRow.holds Try.pinned (OpenSpec.ofChange proofAllWrong)

/-- 'postmarklaw7.ProofBack': WHATEVER THE INPUT: true; the input reads as it did. -/
def proofBackSpec : ChangeSpec := { name := "proofBack", fn := fun _ => fun
  | [d1, d2, d3, d4] => { results := [.lit (.bool true)], args := [d1, d2, d3, d4] }
  | _ => none }
def proofBackRow : OpenClaim := { program := "ytejhgijjegnmnaa", sum := "fd6bb665f26cf04cbe38e30e67e36e138d5ab0e5b4d55464739b76eec74a10d5", func := "postmark/postmarklaw7.ProofBack", spec := "proofBack", inPlace := ["internal/bytealg.Compare"], unfollowed := true, recurses := true, apart := false }
def ProofBackSaid : Prop := proofBackRow.holds Try.pinned (OpenSpec.ofChange proofBackSpec)

/-- ITS FALSE NEIGHBOUR: 'it returns false'. Refute it at one input. -/
def proofBackWrong : ChangeSpec := { name := "proofBack", fn := fun _ => fun
  | [d1, d2, d3, d4] => { results := [.lit (.bool false)], args := [d1, d2, d3, d4] }
  | _ => none }
def ProofBackWrongFalsely : Prop := proofBackRow.holds Try.pinned (OpenSpec.ofChange proofBackWrong)

/-- 'postmarklaw7.ProofOne': WHATEVER THE INPUT: true; the input reads as it did. -/
def proofOneSpec : ChangeSpec := { name := "proofOne", fn := fun _ => fun
  | [d1, d2, d3] => { results := [.lit (.bool true)], args := [d1, d2, d3] }
  | _ => none }
def proofOneRow : OpenClaim := { program := "ytejhgijjegnmnaa", sum := "fd6bb665f26cf04cbe38e30e67e36e138d5ab0e5b4d55464739b76eec74a10d5", func := "postmark/postmarklaw7.ProofOne", spec := "proofOne", inPlace := ["internal/bytealg.Compare"], unfollowed := true, recurses := true, apart := false }
def ProofOneSaid : Prop := proofOneRow.holds Try.pinned (OpenSpec.ofChange proofOneSpec)

/-- ITS FALSE NEIGHBOUR: 'it returns false'. Refute it at one input. -/
def proofOneWrong : ChangeSpec := { name := "proofOne", fn := fun _ => fun
  | [d1, d2, d3] => { results := [.lit (.bool false)], args := [d1, d2, d3] }
  | _ => none }
def ProofOneWrongFalsely : Prop := proofOneRow.holds Try.pinned (OpenSpec.ofChange proofOneWrong)

/-- 'postmarklaw7.ProofClashes': WHATEVER THE INPUT: true; the input reads as it did. -/
def proofClashesSpec : ChangeSpec := { name := "proofClashes", fn := fun _ => fun
  | [d1, d2, d3, d4, d5, d6, d7] => { results := [.lit (.bool true)], args := [d1, d2, d3, d4, d5, d6, d7] }
  | _ => none }
def proofClashesRow : OpenClaim := { program := "ytejhgijjegnmnaa", sum := "fd6bb665f26cf04cbe38e30e67e36e138d5ab0e5b4d55464739b76eec74a10d5", func := "postmark/postmarklaw7.ProofClashes", spec := "proofClashes", inPlace := ["internal/bytealg.Compare"], unfollowed := true, recurses := true, apart := false }
def ProofClashesSaid : Prop := proofClashesRow.holds Try.pinned (OpenSpec.ofChange proofClashesSpec)

/-- ITS FALSE NEIGHBOUR: 'it returns false'. Refute it at one input. -/
def proofClashesWrong : ChangeSpec := { name := "proofClashes", fn := fun _ => fun
  | [d1, d2, d3, d4, d5, d6, d7] => { results := [.lit (.bool false)], args := [d1, d2, d3, d4, d5, d6, d7] }
  | _ => none }
def ProofClashesWrongFalsely : Prop := proofClashesRow.holds Try.pinned (OpenSpec.ofChange proofClashesWrong)

/- THE SECOND FORM. 'bulk': how many values and letters a reading holds, each counted each time it is reached (what is shared counts as often as it is met; a slice's spare places count too). A statement '..UptoSaid' is the law's where the arguments, and the package variables that the reading takes, are together of bulk at most 1048576: NARROWER than '..Said'. Prove '..Said' where nothing that the law and all that it calls make is longer than what came in: it says more and counts as full. Else prove '..UptoSaid'. A law counts once. -/
mutual
def uptoBulk {H : Type} : DataW H → Nat
  | .lit (.string bytes) => bytes.length + 1
  | .lit _ => 1
  | .nil => 1
  | .ptr d => uptoBulk d + 1
  | .slice elems spare => uptoBulkAll elems + uptoBulkAll spare + 1
  | .agg parts => uptoBulkAll parts + 1
  | .iface _ d => uptoBulk d + 1
  | .map entries => uptoBulkEntries entries + 1
  | .held _ => 1
def uptoBulkAll {H : Type} : List (DataW H) → Nat
  | [] => 0
  | d :: r => uptoBulk d + uptoBulkAll r
def uptoBulkEntries {H : Type} : List (Lit × DataW H) → Nat
  | [] => 0
  | x :: r => uptoBulkEntry x + uptoBulkEntries r
def uptoBulkEntry {H : Type} : Lit × DataW H → Nat
  | (.string bytes, d) => bytes.length + uptoBulk d + 1
  | (_, d) => uptoBulk d + 1
 end
def uptoSmall : (H : Type) → List (DataW H) → Bool := fun _ ds => decide (uptoBulkAll ds ≤ 1048576)
def OpenSpec.upto (s : _root_.Go.ChangeSpec) : _root_.Go.OpenSpec := { _root_.Go.OpenSpec.ofChange s with cond := some uptoSmall }

/-- 'postmarklaw7.ProofTells', WHERE WHAT IT READS IS OF BULK AT MOST 1048576: true; the input reads as it did. -/
def proofTellsUptoRow : OpenClaim := { program := "ytejhgijjegnmnaa", sum := "fd6bb665f26cf04cbe38e30e67e36e138d5ab0e5b4d55464739b76eec74a10d5", func := "postmark/postmarklaw7.ProofTells", spec := "proofTells", inPlace := ["internal/bytealg.Compare"], unfollowed := true, recurses := true, apart := false, narrowed := true }
def ProofTellsUptoSaid : Prop := proofTellsUptoRow.holds Try.pinned (OpenSpec.upto proofTellsSpec)

/-- 'postmarklaw7.ProofReads', WHERE WHAT IT READS IS OF BULK AT MOST 1048576: true; the input reads as it did. -/
def proofReadsUptoRow : OpenClaim := { program := "ytejhgijjegnmnaa", sum := "fd6bb665f26cf04cbe38e30e67e36e138d5ab0e5b4d55464739b76eec74a10d5", func := "postmark/postmarklaw7.ProofReads", spec := "proofReads", inPlace := ["internal/bytealg.Compare"], unfollowed := true, recurses := true, apart := false, narrowed := true }
def ProofReadsUptoSaid : Prop := proofReadsUptoRow.holds Try.pinned (OpenSpec.upto proofReadsSpec)

/-- 'postmarklaw7.ProofAll', WHERE WHAT IT READS IS OF BULK AT MOST 1048576: true; the input reads as it did. -/
def proofAllUptoRow : OpenClaim := { program := "ytejhgijjegnmnaa", sum := "fd6bb665f26cf04cbe38e30e67e36e138d5ab0e5b4d55464739b76eec74a10d5", func := "postmark/postmarklaw7.ProofAll", spec := "proofAll", inPlace := ["internal/bytealg.Compare"], unfollowed := true, recurses := true, apart := false, narrowed := true }
def ProofAllUptoSaid : Prop := proofAllUptoRow.holds Try.pinned (OpenSpec.upto proofAllSpec)

/-- 'postmarklaw7.ProofBack', WHERE WHAT IT READS IS OF BULK AT MOST 1048576: true; the input reads as it did. -/
def proofBackUptoRow : OpenClaim := { program := "ytejhgijjegnmnaa", sum := "fd6bb665f26cf04cbe38e30e67e36e138d5ab0e5b4d55464739b76eec74a10d5", func := "postmark/postmarklaw7.ProofBack", spec := "proofBack", inPlace := ["internal/bytealg.Compare"], unfollowed := true, recurses := true, apart := false, narrowed := true }
def ProofBackUptoSaid : Prop := proofBackUptoRow.holds Try.pinned (OpenSpec.upto proofBackSpec)

/-- 'postmarklaw7.ProofOne', WHERE WHAT IT READS IS OF BULK AT MOST 1048576: true; the input reads as it did. -/
def proofOneUptoRow : OpenClaim := { program := "ytejhgijjegnmnaa", sum := "fd6bb665f26cf04cbe38e30e67e36e138d5ab0e5b4d55464739b76eec74a10d5", func := "postmark/postmarklaw7.ProofOne", spec := "proofOne", inPlace := ["internal/bytealg.Compare"], unfollowed := true, recurses := true, apart := false, narrowed := true }
def ProofOneUptoSaid : Prop := proofOneUptoRow.holds Try.pinned (OpenSpec.upto proofOneSpec)

/-- 'postmarklaw7.ProofClashes', WHERE WHAT IT READS IS OF BULK AT MOST 1048576: true; the input reads as it did. -/
def proofClashesUptoRow : OpenClaim := { program := "ytejhgijjegnmnaa", sum := "fd6bb665f26cf04cbe38e30e67e36e138d5ab0e5b4d55464739b76eec74a10d5", func := "postmark/postmarklaw7.ProofClashes", spec := "proofClashes", inPlace := ["internal/bytealg.Compare"], unfollowed := true, recurses := true, apart := false, narrowed := true }
def ProofClashesUptoSaid : Prop := proofClashesUptoRow.holds Try.pinned (OpenSpec.upto proofClashesSpec)

end Rows
end Go.Proofs.Ytejhgijjegnmnaa
