/-
  No cell of these rows narrows 'for every input' (looked for: loops, veiled, ifaces, maps, wideKeys, modest, calm, conditions, laid).
  DERIVED. THE GIVEN ROWS OF THIS SEAT. 4 by the template 'for every input the law returns true; each argument reads behind the call as it read before'; 0 by the template 'total and deterministic' (their statements: YtmjokdhhniblgaaGreatTotals.lean).
  GIVEN WITH THE SEED: the statements are not yours to turn. If you find one false, say at which input.
  Laid BY PROGRAM, IN A SANDBOX (cutbox-rows.mjs): the forced cells as the released guide's own fill.sh prints them over the translation c5c8abe6121922ad… (all of the seat's roots in one cut). By AI agents, Wed Nov 11 2026. No macro, syntax, notation, axiom, sorry.
-/
import Derived.Test.YtmjokdhhniblgaaGreatChecked
import GoSem.Claim
import GoSem.ClaimJoined
import GoSem.ClaimMapViews
import Derived.JoinedTies
import Derived.KernelRfl
namespace Go.Proofs.YtmjokdhhniblgaaGreat
/- THE CELL 'sum', in the pinned program and in every row, IS THE sha256 OF THE DUMP (.gsa) THAT YtmjokdhhniblgaaGreatProg.lean LOADS. Nothing in Lean hashes anything: it is a label: what it is worth is what the hold of that sum in a sandbox is worth. -/
noncomputable def Tryz.pinned : Pinned := { name := "ytmjokdhhniblgaagreat", sum := "c5c8abe6121922ad78dc3f3fa49136671c872d821f1a80bd0eaeeabbf5ee992d", checked := Tryz.checked }
namespace Rows
def none {H : Type} : Left H := { results := [], args := [] }

/-- 'postmarklaw23.EpochTells': WHATEVER THE INPUT: true; the input reads as it did. -/
def epochTellsSpec : ChangeSpec := { name := "epochTells", fn := fun _ => fun
  | [d1, d2, d3, d4, d5, d6, d7, d8, d9] => { results := [.lit (.bool true)], args := [d1, d2, d3, d4, d5, d6, d7, d8, d9] }
  | _ => none }
def epochTellsRow : OpenClaim := { program := "ytmjokdhhniblgaagreat", sum := "c5c8abe6121922ad78dc3f3fa49136671c872d821f1a80bd0eaeeabbf5ee992d", func := "postmark/postmarklaw23.EpochTells", spec := "epochTells", inPlace := ["slices.overlaps[postmark/api.Known]", "internal/bytealg.Compare"], unfollowed := true, recurses := true, named := ["math/bits.divideError", "math/bits.overflowError"], apart := false }
def EpochTellsSaid : Prop := epochTellsRow.holds Tryz.pinned (OpenSpec.ofChange epochTellsSpec)

/-- ITS FALSE NEIGHBOUR: 'it returns false'. Refute it at one input. -/
def epochTellsWrong : ChangeSpec := { name := "epochTells", fn := fun _ => fun
  | [d1, d2, d3, d4, d5, d6, d7, d8, d9] => { results := [.lit (.bool false)], args := [d1, d2, d3, d4, d5, d6, d7, d8, d9] }
  | _ => none }
def EpochTellsWrongFalsely : Prop := epochTellsRow.holds Tryz.pinned (OpenSpec.ofChange epochTellsWrong)

/-- 'postmarklaw23.EpochChain': WHATEVER THE INPUT: true; the input reads as it did. -/
def epochChainSpec : ChangeSpec := { name := "epochChain", fn := fun _ => fun
  | [d] => { results := [.lit (.bool true)], args := [d] }
  | _ => none }
def epochChainRow : OpenClaim := { program := "ytmjokdhhniblgaagreat", sum := "c5c8abe6121922ad78dc3f3fa49136671c872d821f1a80bd0eaeeabbf5ee992d", func := "postmark/postmarklaw23.EpochChain", spec := "epochChain", inPlace := ["slices.overlaps[postmark/api.Known]", "internal/bytealg.Compare"], unfollowed := true, recurses := true, named := ["math/bits.divideError", "math/bits.overflowError"], apart := false }
def EpochChainSaid : Prop := epochChainRow.holds Tryz.pinned (OpenSpec.ofChange epochChainSpec)

/-- ITS FALSE NEIGHBOUR: 'it returns false'. Refute it at one input. -/
def epochChainWrong : ChangeSpec := { name := "epochChain", fn := fun _ => fun
  | [d] => { results := [.lit (.bool false)], args := [d] }
  | _ => none }
def EpochChainWrongFalsely : Prop := epochChainRow.holds Tryz.pinned (OpenSpec.ofChange epochChainWrong)

/-- 'postmarklaw23.EpochRoots': WHATEVER THE INPUT: true; the input reads as it did. -/
def epochRootsSpec : ChangeSpec := { name := "epochRoots", fn := fun _ => fun
  | [d] => { results := [.lit (.bool true)], args := [d] }
  | _ => none }
def epochRootsRow : OpenClaim := { program := "ytmjokdhhniblgaagreat", sum := "c5c8abe6121922ad78dc3f3fa49136671c872d821f1a80bd0eaeeabbf5ee992d", func := "postmark/postmarklaw23.EpochRoots", spec := "epochRoots", inPlace := ["slices.overlaps[postmark/api.Known]", "internal/bytealg.Compare"], unfollowed := true, recurses := true, named := ["math/bits.divideError", "math/bits.overflowError"], apart := false }
def EpochRootsSaid : Prop := epochRootsRow.holds Tryz.pinned (OpenSpec.ofChange epochRootsSpec)

/-- ITS FALSE NEIGHBOUR: 'it returns false'. Refute it at one input. -/
def epochRootsWrong : ChangeSpec := { name := "epochRoots", fn := fun _ => fun
  | [d] => { results := [.lit (.bool false)], args := [d] }
  | _ => none }
def EpochRootsWrongFalsely : Prop := epochRootsRow.holds Tryz.pinned (OpenSpec.ofChange epochRootsWrong)

/-- 'postmarklaw23.EpochForms': WHATEVER THE INPUT: true; the input reads as it did. -/
def epochFormsSpec : ChangeSpec := { name := "epochForms", fn := fun _ => fun
  | [d1, d2, d3] => { results := [.lit (.bool true)], args := [d1, d2, d3] }
  | _ => none }
def epochFormsRow : OpenClaim := { program := "ytmjokdhhniblgaagreat", sum := "c5c8abe6121922ad78dc3f3fa49136671c872d821f1a80bd0eaeeabbf5ee992d", func := "postmark/postmarklaw23.EpochForms", spec := "epochForms", inPlace := ["slices.overlaps[postmark/api.Known]", "internal/bytealg.Compare"], unfollowed := true, recurses := true, named := ["math/bits.divideError", "math/bits.overflowError"], apart := false }
def EpochFormsSaid : Prop := epochFormsRow.holds Tryz.pinned (OpenSpec.ofChange epochFormsSpec)

/-- ITS FALSE NEIGHBOUR: 'it returns false'. Refute it at one input. -/
def epochFormsWrong : ChangeSpec := { name := "epochForms", fn := fun _ => fun
  | [d1, d2, d3] => { results := [.lit (.bool false)], args := [d1, d2, d3] }
  | _ => none }
def EpochFormsWrongFalsely : Prop := epochFormsRow.holds Tryz.pinned (OpenSpec.ofChange epochFormsWrong)

/- THE SECOND FORM. 'bulk': how many values and letters a reading holds, each counted each time it is reached (what is shared counts as often as it is met; a slice's spare places count too). A statement '..UptoSaid' is the law's where the arguments, and the package variables that the reading takes, are together of bulk at most 1048576: NARROWER than '..Said'. Prove '..Said' where nothing that the law and all that it calls make is longer than what came in: it says more and counts as full. Else prove '..UptoSaid'. A law counts once. -/
mutual
def uptoBulk {H : Type} : DataW H → Nat
  | .lit (.string bytes) => bytes.length + 1
  | .lit _ => 1
  | .nil => 1
  | .ptr d => uptoBulk d + 1
  | .slice elems spare => uptoBulkAll elems + uptoBulkAll spare + 1
  | .agg parts => uptoBulkAll parts + 1
  | .iface _ d => uptoBulk d + 1
  | .map entries => uptoBulkEntries entries + 1
  | .held _ => 1
def uptoBulkAll {H : Type} : List (DataW H) → Nat
  | [] => 0
  | d :: r => uptoBulk d + uptoBulkAll r
def uptoBulkEntries {H : Type} : List (Lit × DataW H) → Nat
  | [] => 0
  | x :: r => uptoBulkEntry x + uptoBulkEntries r
def uptoBulkEntry {H : Type} : Lit × DataW H → Nat
  | (.string bytes, d) => bytes.length + uptoBulk d + 1
  | (_, d) => uptoBulk d + 1
 end
def uptoSmall : (H : Type) → List (DataW H) → Bool := fun _ ds => decide (uptoBulkAll ds ≤ 1048576)
def OpenSpec.upto (s : _root_.Go.ChangeSpec) : _root_.Go.OpenSpec := { _root_.Go.OpenSpec.ofChange s with cond := some uptoSmall }

/-- 'postmarklaw23.EpochTells', WHERE WHAT IT READS IS OF BULK AT MOST 1048576: true; the input reads as it did. -/
def epochTellsUptoRow : OpenClaim := { program := "ytmjokdhhniblgaagreat", sum := "c5c8abe6121922ad78dc3f3fa49136671c872d821f1a80bd0eaeeabbf5ee992d", func := "postmark/postmarklaw23.EpochTells", spec := "epochTells", inPlace := ["slices.overlaps[postmark/api.Known]", "internal/bytealg.Compare"], unfollowed := true, recurses := true, named := ["math/bits.divideError", "math/bits.overflowError"], apart := false, narrowed := true }
def EpochTellsUptoSaid : Prop := epochTellsUptoRow.holds Tryz.pinned (OpenSpec.upto epochTellsSpec)

/-- 'postmarklaw23.EpochChain', WHERE WHAT IT READS IS OF BULK AT MOST 1048576: true; the input reads as it did. -/
def epochChainUptoRow : OpenClaim := { program := "ytmjokdhhniblgaagreat", sum := "c5c8abe6121922ad78dc3f3fa49136671c872d821f1a80bd0eaeeabbf5ee992d", func := "postmark/postmarklaw23.EpochChain", spec := "epochChain", inPlace := ["slices.overlaps[postmark/api.Known]", "internal/bytealg.Compare"], unfollowed := true, recurses := true, named := ["math/bits.divideError", "math/bits.overflowError"], apart := false, narrowed := true }
def EpochChainUptoSaid : Prop := epochChainUptoRow.holds Tryz.pinned (OpenSpec.upto epochChainSpec)

/-- 'postmarklaw23.EpochRoots', WHERE WHAT IT READS IS OF BULK AT MOST 1048576: true; the input reads as it did. -/
def epochRootsUptoRow : OpenClaim := { program := "ytmjokdhhniblgaagreat", sum := "c5c8abe6121922ad78dc3f3fa49136671c872d821f1a80bd0eaeeabbf5ee992d", func := "postmark/postmarklaw23.EpochRoots", spec := "epochRoots", inPlace := ["slices.overlaps[postmark/api.Known]", "internal/bytealg.Compare"], unfollowed := true, recurses := true, named := ["math/bits.divideError", "math/bits.overflowError"], apart := false, narrowed := true }
def EpochRootsUptoSaid : Prop := epochRootsUptoRow.holds Tryz.pinned (OpenSpec.upto epochRootsSpec)

/-- 'postmarklaw23.EpochForms', WHERE WHAT IT READS IS OF BULK AT MOST 1048576: true; the input reads as it did. -/
def epochFormsUptoRow : OpenClaim := { program := "ytmjokdhhniblgaagreat", sum := "c5c8abe6121922ad78dc3f3fa49136671c872d821f1a80bd0eaeeabbf5ee992d", func := "postmark/postmarklaw23.EpochForms", spec := "epochForms", inPlace := ["slices.overlaps[postmark/api.Known]", "internal/bytealg.Compare"], unfollowed := true, recurses := true, named := ["math/bits.divideError", "math/bits.overflowError"], apart := false, narrowed := true }
def EpochFormsUptoSaid : Prop := epochFormsUptoRow.holds Tryz.pinned (OpenSpec.upto epochFormsSpec)

end Rows
end Go.Proofs.YtmjokdhhniblgaaGreat
