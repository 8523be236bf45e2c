/-
  No cell of these rows narrows 'for every input' (looked for: loops, veiled, ifaces, maps, wideKeys, modest, calm, conditions, laid).
  DERIVED. THE GIVEN ROWS OF THIS SEAT. 5 by the template 'for every input the law returns true; each argument reads behind the call as it read before'; 0 by the template 'total and deterministic' (their statements: YthidepbffhhkmaaTotals.lean).
  GIVEN WITH THE SEED: the statements are not yours to turn. If you find one false, say at which input.
  Laid BY PROGRAM, IN A SANDBOX (cutbox-rows.mjs): the forced cells as the released guide's own fill.sh prints them over the translation 656dbd78e151608c… (all of the seat's roots in one cut). By AI agents, Wed Nov 11 2026. No macro, syntax, notation, axiom, sorry.
-/
import Derived.Test.YthidepbffhhkmaaChecked
import GoSem.Claim
import GoSem.ClaimJoined
import GoSem.ClaimMapViews
import Derived.JoinedTies
import Derived.KernelRfl
namespace Go.Proofs.Ythidepbffhhkmaa
/- THE CELL 'sum', in the pinned program and in every row, IS THE sha256 OF THE DUMP (.gsa) THAT YthidepbffhhkmaaProg.lean LOADS. Nothing in Lean hashes anything: it is a label: what it is worth is what the hold of that sum in a sandbox is worth. -/
noncomputable def Try.pinned : Pinned := { name := "ythidepbffhhkmaa", sum := "656dbd78e151608cc970de48ce45e8719c52cbfd35b72c4d5d7634a07bb85308", checked := Try.checked }
namespace Rows
def none {H : Type} : Left H := { results := [], args := [] }

/-- 'postmarklaw16.DirectoryItems': WHATEVER THE INPUT: true; the input reads as it did. -/
def directoryItemsSpec : ChangeSpec := { name := "directoryItems", fn := fun _ => fun
  | [d1, d2] => { results := [.lit (.bool true)], args := [d1, d2] }
  | _ => none }
def directoryItemsRow : OpenClaim := { program := "ythidepbffhhkmaa", sum := "656dbd78e151608cc970de48ce45e8719c52cbfd35b72c4d5d7634a07bb85308", func := "postmark/postmarklaw16.DirectoryItems", spec := "directoryItems", inPlace := ["slices.overlaps[postmark/api.Known]", "internal/bytealg.Compare"], unfollowed := true, recurses := true, apart := false }
def DirectoryItemsSaid : Prop := directoryItemsRow.holds Try.pinned (OpenSpec.ofChange directoryItemsSpec)

/-- ITS FALSE NEIGHBOUR: 'it returns false'. Refute it at one input. -/
def directoryItemsWrong : ChangeSpec := { name := "directoryItems", fn := fun _ => fun
  | [d1, d2] => { results := [.lit (.bool false)], args := [d1, d2] }
  | _ => none }
def DirectoryItemsWrongFalsely : Prop := directoryItemsRow.holds Try.pinned (OpenSpec.ofChange directoryItemsWrong)

/-- 'postmarklaw16.DirectoryOrder': WHATEVER THE INPUT: true; the input reads as it did. -/
def directoryOrderSpec : ChangeSpec := { name := "directoryOrder", fn := fun _ => fun
  | [d1, d2, d3] => { results := [.lit (.bool true)], args := [d1, d2, d3] }
  | _ => none }
def directoryOrderRow : OpenClaim := { program := "ythidepbffhhkmaa", sum := "656dbd78e151608cc970de48ce45e8719c52cbfd35b72c4d5d7634a07bb85308", func := "postmark/postmarklaw16.DirectoryOrder", spec := "directoryOrder", inPlace := ["slices.overlaps[postmark/api.Known]", "internal/bytealg.Compare"], unfollowed := true, recurses := true, apart := false }
def DirectoryOrderSaid : Prop := directoryOrderRow.holds Try.pinned (OpenSpec.ofChange directoryOrderSpec)

/-- ITS FALSE NEIGHBOUR: 'it returns false'. Refute it at one input. -/
def directoryOrderWrong : ChangeSpec := { name := "directoryOrder", fn := fun _ => fun
  | [d1, d2, d3] => { results := [.lit (.bool false)], args := [d1, d2, d3] }
  | _ => none }
def DirectoryOrderWrongFalsely : Prop := directoryOrderRow.holds Try.pinned (OpenSpec.ofChange directoryOrderWrong)

/-- 'postmarklaw16.DirectoryTells': WHATEVER THE INPUT: true; the input reads as it did. -/
def directoryTellsSpec : ChangeSpec := { name := "directoryTells", fn := fun _ => fun
  | [d1, d2, d3, d4, d5, d6, d7, d8, d9] => { results := [.lit (.bool true)], args := [d1, d2, d3, d4, d5, d6, d7, d8, d9] }
  | _ => none }
def directoryTellsRow : OpenClaim := { program := "ythidepbffhhkmaa", sum := "656dbd78e151608cc970de48ce45e8719c52cbfd35b72c4d5d7634a07bb85308", func := "postmark/postmarklaw16.DirectoryTells", spec := "directoryTells", inPlace := ["slices.overlaps[postmark/api.Known]", "internal/bytealg.Compare"], unfollowed := true, recurses := true, apart := false }
def DirectoryTellsSaid : Prop := directoryTellsRow.holds Try.pinned (OpenSpec.ofChange directoryTellsSpec)

/-- ITS FALSE NEIGHBOUR: 'it returns false'. Refute it at one input. -/
def directoryTellsWrong : ChangeSpec := { name := "directoryTells", fn := fun _ => fun
  | [d1, d2, d3, d4, d5, d6, d7, d8, d9] => { results := [.lit (.bool false)], args := [d1, d2, d3, d4, d5, d6, d7, d8, d9] }
  | _ => none }
def DirectoryTellsWrongFalsely : Prop := directoryTellsRow.holds Try.pinned (OpenSpec.ofChange directoryTellsWrong)

/-- 'postmarklaw16.DirectoryChains': WHATEVER THE INPUT: true; the input reads as it did. -/
def directoryChainsSpec : ChangeSpec := { name := "directoryChains", fn := fun _ => fun
  | [d1, d2] => { results := [.lit (.bool true)], args := [d1, d2] }
  | _ => none }
def directoryChainsRow : OpenClaim := { program := "ythidepbffhhkmaa", sum := "656dbd78e151608cc970de48ce45e8719c52cbfd35b72c4d5d7634a07bb85308", func := "postmark/postmarklaw16.DirectoryChains", spec := "directoryChains", inPlace := ["slices.overlaps[postmark/api.Known]", "internal/bytealg.Compare"], unfollowed := true, recurses := true, apart := false }
def DirectoryChainsSaid : Prop := directoryChainsRow.holds Try.pinned (OpenSpec.ofChange directoryChainsSpec)

/-- ITS FALSE NEIGHBOUR: 'it returns false'. Refute it at one input. -/
def directoryChainsWrong : ChangeSpec := { name := "directoryChains", fn := fun _ => fun
  | [d1, d2] => { results := [.lit (.bool false)], args := [d1, d2] }
  | _ => none }
def DirectoryChainsWrongFalsely : Prop := directoryChainsRow.holds Try.pinned (OpenSpec.ofChange directoryChainsWrong)

/-- 'postmarklaw16.DirectoryFinds': WHATEVER THE INPUT: true; the input reads as it did. -/
def directoryFindsSpec : ChangeSpec := { name := "directoryFinds", fn := fun _ => fun
  | [d1, d2] => { results := [.lit (.bool true)], args := [d1, d2] }
  | _ => none }
def directoryFindsRow : OpenClaim := { program := "ythidepbffhhkmaa", sum := "656dbd78e151608cc970de48ce45e8719c52cbfd35b72c4d5d7634a07bb85308", func := "postmark/postmarklaw16.DirectoryFinds", spec := "directoryFinds", inPlace := ["slices.overlaps[postmark/api.Known]", "internal/bytealg.Compare"], unfollowed := true, recurses := true, apart := false }
def DirectoryFindsSaid : Prop := directoryFindsRow.holds Try.pinned (OpenSpec.ofChange directoryFindsSpec)

/-- ITS FALSE NEIGHBOUR: 'it returns false'. Refute it at one input. -/
def directoryFindsWrong : ChangeSpec := { name := "directoryFinds", fn := fun _ => fun
  | [d1, d2] => { results := [.lit (.bool false)], args := [d1, d2] }
  | _ => none }
def DirectoryFindsWrongFalsely : Prop := directoryFindsRow.holds Try.pinned (OpenSpec.ofChange directoryFindsWrong)

/- THE SECOND FORM. 'bulk': how many values and letters a reading holds, each counted each time it is reached (what is shared counts as often as it is met; a slice's spare places count too). A statement '..UptoSaid' is the law's where the arguments, and the package variables that the reading takes, are together of bulk at most 1048576: NARROWER than '..Said'. Prove '..Said' where nothing that the law and all that it calls make is longer than what came in: it says more and counts as full. Else prove '..UptoSaid'. A law counts once. -/
mutual
def uptoBulk {H : Type} : DataW H → Nat
  | .lit (.string bytes) => bytes.length + 1
  | .lit _ => 1
  | .nil => 1
  | .ptr d => uptoBulk d + 1
  | .slice elems spare => uptoBulkAll elems + uptoBulkAll spare + 1
  | .agg parts => uptoBulkAll parts + 1
  | .iface _ d => uptoBulk d + 1
  | .map entries => uptoBulkEntries entries + 1
  | .held _ => 1
def uptoBulkAll {H : Type} : List (DataW H) → Nat
  | [] => 0
  | d :: r => uptoBulk d + uptoBulkAll r
def uptoBulkEntries {H : Type} : List (Lit × DataW H) → Nat
  | [] => 0
  | x :: r => uptoBulkEntry x + uptoBulkEntries r
def uptoBulkEntry {H : Type} : Lit × DataW H → Nat
  | (.string bytes, d) => bytes.length + uptoBulk d + 1
  | (_, d) => uptoBulk d + 1
 end
def uptoSmall : (H : Type) → List (DataW H) → Bool := fun _ ds => decide (uptoBulkAll ds ≤ 1048576)
def OpenSpec.upto (s : _root_.Go.ChangeSpec) : _root_.Go.OpenSpec := { _root_.Go.OpenSpec.ofChange s with cond := some uptoSmall }

/-- 'postmarklaw16.DirectoryItems', WHERE WHAT IT READS IS OF BULK AT MOST 1048576: true; the input reads as it did. -/
def directoryItemsUptoRow : OpenClaim := { program := "ythidepbffhhkmaa", sum := "656dbd78e151608cc970de48ce45e8719c52cbfd35b72c4d5d7634a07bb85308", func := "postmark/postmarklaw16.DirectoryItems", spec := "directoryItems", inPlace := ["slices.overlaps[postmark/api.Known]", "internal/bytealg.Compare"], unfollowed := true, recurses := true, apart := false, narrowed := true }
def DirectoryItemsUptoSaid : Prop := directoryItemsUptoRow.holds Try.pinned (OpenSpec.upto directoryItemsSpec)

/-- 'postmarklaw16.DirectoryOrder', WHERE WHAT IT READS IS OF BULK AT MOST 1048576: true; the input reads as it did. -/
def directoryOrderUptoRow : OpenClaim := { program := "ythidepbffhhkmaa", sum := "656dbd78e151608cc970de48ce45e8719c52cbfd35b72c4d5d7634a07bb85308", func := "postmark/postmarklaw16.DirectoryOrder", spec := "directoryOrder", inPlace := ["slices.overlaps[postmark/api.Known]", "internal/bytealg.Compare"], unfollowed := true, recurses := true, apart := false, narrowed := true }
def DirectoryOrderUptoSaid : Prop := directoryOrderUptoRow.holds Try.pinned (OpenSpec.upto directoryOrderSpec)

/-- 'postmarklaw16.DirectoryTells', WHERE WHAT IT READS IS OF BULK AT MOST 1048576: true; the input reads as it did. -/
def directoryTellsUptoRow : OpenClaim := { program := "ythidepbffhhkmaa", sum := "656dbd78e151608cc970de48ce45e8719c52cbfd35b72c4d5d7634a07bb85308", func := "postmark/postmarklaw16.DirectoryTells", spec := "directoryTells", inPlace := ["slices.overlaps[postmark/api.Known]", "internal/bytealg.Compare"], unfollowed := true, recurses := true, apart := false, narrowed := true }
def DirectoryTellsUptoSaid : Prop := directoryTellsUptoRow.holds Try.pinned (OpenSpec.upto directoryTellsSpec)

/-- 'postmarklaw16.DirectoryChains', WHERE WHAT IT READS IS OF BULK AT MOST 1048576: true; the input reads as it did. -/
def directoryChainsUptoRow : OpenClaim := { program := "ythidepbffhhkmaa", sum := "656dbd78e151608cc970de48ce45e8719c52cbfd35b72c4d5d7634a07bb85308", func := "postmark/postmarklaw16.DirectoryChains", spec := "directoryChains", inPlace := ["slices.overlaps[postmark/api.Known]", "internal/bytealg.Compare"], unfollowed := true, recurses := true, apart := false, narrowed := true }
def DirectoryChainsUptoSaid : Prop := directoryChainsUptoRow.holds Try.pinned (OpenSpec.upto directoryChainsSpec)

/-- 'postmarklaw16.DirectoryFinds', WHERE WHAT IT READS IS OF BULK AT MOST 1048576: true; the input reads as it did. -/
def directoryFindsUptoRow : OpenClaim := { program := "ythidepbffhhkmaa", sum := "656dbd78e151608cc970de48ce45e8719c52cbfd35b72c4d5d7634a07bb85308", func := "postmark/postmarklaw16.DirectoryFinds", spec := "directoryFinds", inPlace := ["slices.overlaps[postmark/api.Known]", "internal/bytealg.Compare"], unfollowed := true, recurses := true, apart := false, narrowed := true }
def DirectoryFindsUptoSaid : Prop := directoryFindsUptoRow.holds Try.pinned (OpenSpec.upto directoryFindsSpec)

end Rows
end Go.Proofs.Ythidepbffhhkmaa
