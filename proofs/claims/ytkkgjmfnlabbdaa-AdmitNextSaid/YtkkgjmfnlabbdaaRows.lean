/-
  No cell of these rows narrows 'for every input' (looked for: loops, veiled, ifaces, maps, wideKeys, modest, calm, conditions, laid).
  DERIVED. THE GIVEN ROWS OF THIS SEAT. 5 by the template 'for every input the law returns true; each argument reads behind the call as it read before'; 0 by the template 'total and deterministic' (their statements: YtkkgjmfnlabbdaaTotals.lean).
  GIVEN WITH THE SEED: the statements are not yours to turn. If you find one false, say at which input.
  Laid BY PROGRAM, IN A SANDBOX (cutbox-rows.mjs): the forced cells as the released guide's own fill.sh prints them over the translation 175176b728c2a31b… (all of the seat's roots in one cut). By AI agents, Wed Nov 11 2026. No macro, syntax, notation, axiom, sorry.
-/
import Derived.Test.YtkkgjmfnlabbdaaChecked
import GoSem.Claim
import GoSem.ClaimJoined
import GoSem.ClaimMapViews
import Derived.JoinedTies
import Derived.KernelRfl
namespace Go.Proofs.Ytkkgjmfnlabbdaa
/- THE CELL 'sum', in the pinned program and in every row, IS THE sha256 OF THE DUMP (.gsa) THAT YtkkgjmfnlabbdaaProg.lean LOADS. Nothing in Lean hashes anything: it is a label: what it is worth is what the hold of that sum in a sandbox is worth. -/
noncomputable def Try.pinned : Pinned := { name := "ytkkgjmfnlabbdaa", sum := "175176b728c2a31bc5bfcc3975dde3a103fb22c8cbe8cebe491f730bff30f457", checked := Try.checked }
namespace Rows
def none {H : Type} : Left H := { results := [], args := [] }

/-- 'postmarklaw17.AdmitTells': WHATEVER THE INPUT: true; the input reads as it did. -/
def admitTellsSpec : ChangeSpec := { name := "admitTells", fn := fun _ => fun
  | [d1, d2, d3, d4, d5, d6, d7, d8] => { results := [.lit (.bool true)], args := [d1, d2, d3, d4, d5, d6, d7, d8] }
  | _ => none }
def admitTellsRow : OpenClaim := { program := "ytkkgjmfnlabbdaa", sum := "175176b728c2a31bc5bfcc3975dde3a103fb22c8cbe8cebe491f730bff30f457", func := "postmark/postmarklaw17.AdmitTells", spec := "admitTells", unfollowed := true, recurses := true, named := ["math/bits.divideError", "math/bits.overflowError"], apart := false }
def AdmitTellsSaid : Prop := admitTellsRow.holds Try.pinned (OpenSpec.ofChange admitTellsSpec)

/-- ITS FALSE NEIGHBOUR: 'it returns false'. Refute it at one input. -/
def admitTellsWrong : ChangeSpec := { name := "admitTells", fn := fun _ => fun
  | [d1, d2, d3, d4, d5, d6, d7, d8] => { results := [.lit (.bool false)], args := [d1, d2, d3, d4, d5, d6, d7, d8] }
  | _ => none }
def AdmitTellsWrongFalsely : Prop := admitTellsRow.holds Try.pinned (OpenSpec.ofChange admitTellsWrong)

/-- 'postmarklaw17.AdmitSigned': WHATEVER THE INPUT: true; the input reads as it did. -/
def admitSignedSpec : ChangeSpec := { name := "admitSigned", fn := fun _ => fun
  | [d1, d2, d3, d4, d5] => { results := [.lit (.bool true)], args := [d1, d2, d3, d4, d5] }
  | _ => none }
def admitSignedRow : OpenClaim := { program := "ytkkgjmfnlabbdaa", sum := "175176b728c2a31bc5bfcc3975dde3a103fb22c8cbe8cebe491f730bff30f457", func := "postmark/postmarklaw17.AdmitSigned", spec := "admitSigned", unfollowed := true, recurses := true, named := ["math/bits.divideError", "math/bits.overflowError"], apart := false }
def AdmitSignedSaid : Prop := admitSignedRow.holds Try.pinned (OpenSpec.ofChange admitSignedSpec)

/-- ITS FALSE NEIGHBOUR: 'it returns false'. Refute it at one input. -/
def admitSignedWrong : ChangeSpec := { name := "admitSigned", fn := fun _ => fun
  | [d1, d2, d3, d4, d5] => { results := [.lit (.bool false)], args := [d1, d2, d3, d4, d5] }
  | _ => none }
def AdmitSignedWrongFalsely : Prop := admitSignedRow.holds Try.pinned (OpenSpec.ofChange admitSignedWrong)

/-- 'postmarklaw17.AdmitTwice': WHATEVER THE INPUT: true; the input reads as it did. -/
def admitTwiceSpec : ChangeSpec := { name := "admitTwice", fn := fun _ => fun
  | [d1, d2, d3, d4] => { results := [.lit (.bool true)], args := [d1, d2, d3, d4] }
  | _ => none }
def admitTwiceRow : OpenClaim := { program := "ytkkgjmfnlabbdaa", sum := "175176b728c2a31bc5bfcc3975dde3a103fb22c8cbe8cebe491f730bff30f457", func := "postmark/postmarklaw17.AdmitTwice", spec := "admitTwice", unfollowed := true, recurses := true, named := ["math/bits.divideError", "math/bits.overflowError"], apart := false }
def AdmitTwiceSaid : Prop := admitTwiceRow.holds Try.pinned (OpenSpec.ofChange admitTwiceSpec)

/-- ITS FALSE NEIGHBOUR: 'it returns false'. Refute it at one input. -/
def admitTwiceWrong : ChangeSpec := { name := "admitTwice", fn := fun _ => fun
  | [d1, d2, d3, d4] => { results := [.lit (.bool false)], args := [d1, d2, d3, d4] }
  | _ => none }
def AdmitTwiceWrongFalsely : Prop := admitTwiceRow.holds Try.pinned (OpenSpec.ofChange admitTwiceWrong)

/-- 'postmarklaw17.AdmitForms': WHATEVER THE INPUT: true; the input reads as it did. -/
def admitFormsSpec : ChangeSpec := { name := "admitForms", fn := fun _ => fun
  | [d1, d2, d3, d4, d5] => { results := [.lit (.bool true)], args := [d1, d2, d3, d4, d5] }
  | _ => none }
def admitFormsRow : OpenClaim := { program := "ytkkgjmfnlabbdaa", sum := "175176b728c2a31bc5bfcc3975dde3a103fb22c8cbe8cebe491f730bff30f457", func := "postmark/postmarklaw17.AdmitForms", spec := "admitForms", unfollowed := true, recurses := true, named := ["math/bits.divideError", "math/bits.overflowError"], apart := false }
def AdmitFormsSaid : Prop := admitFormsRow.holds Try.pinned (OpenSpec.ofChange admitFormsSpec)

/-- ITS FALSE NEIGHBOUR: 'it returns false'. Refute it at one input. -/
def admitFormsWrong : ChangeSpec := { name := "admitForms", fn := fun _ => fun
  | [d1, d2, d3, d4, d5] => { results := [.lit (.bool false)], args := [d1, d2, d3, d4, d5] }
  | _ => none }
def AdmitFormsWrongFalsely : Prop := admitFormsRow.holds Try.pinned (OpenSpec.ofChange admitFormsWrong)

/-- 'postmarklaw17.AdmitNext': WHATEVER THE INPUT: true; the input reads as it did. -/
def admitNextSpec : ChangeSpec := { name := "admitNext", fn := fun _ => fun
  | [d1, d2, d3] => { results := [.lit (.bool true)], args := [d1, d2, d3] }
  | _ => none }
def admitNextRow : OpenClaim := { program := "ytkkgjmfnlabbdaa", sum := "175176b728c2a31bc5bfcc3975dde3a103fb22c8cbe8cebe491f730bff30f457", func := "postmark/postmarklaw17.AdmitNext", spec := "admitNext", unfollowed := true, recurses := true, named := ["math/bits.divideError", "math/bits.overflowError"], apart := false }
def AdmitNextSaid : Prop := admitNextRow.holds Try.pinned (OpenSpec.ofChange admitNextSpec)

/-- ITS FALSE NEIGHBOUR: 'it returns false'. Refute it at one input. -/
def admitNextWrong : ChangeSpec := { name := "admitNext", fn := fun _ => fun
  | [d1, d2, d3] => { results := [.lit (.bool false)], args := [d1, d2, d3] }
  | _ => none }
def AdmitNextWrongFalsely : Prop := admitNextRow.holds Try.pinned (OpenSpec.ofChange admitNextWrong)

/- THE SECOND FORM. 'bulk': how many values and letters a reading holds, each counted each time it is reached (what is shared counts as often as it is met; a slice's spare places count too). A statement '..UptoSaid' is the law's where the arguments, and the package variables that the reading takes, are together of bulk at most 1048576: NARROWER than '..Said'. Prove '..Said' where nothing that the law and all that it calls make is longer than what came in: it says more and counts as full. Else prove '..UptoSaid'. A law counts once. -/
mutual
def uptoBulk {H : Type} : DataW H → Nat
  | .lit (.string bytes) => bytes.length + 1
  | .lit _ => 1
  | .nil => 1
  | .ptr d => uptoBulk d + 1
  | .slice elems spare => uptoBulkAll elems + uptoBulkAll spare + 1
  | .agg parts => uptoBulkAll parts + 1
  | .iface _ d => uptoBulk d + 1
  | .map entries => uptoBulkEntries entries + 1
  | .held _ => 1
def uptoBulkAll {H : Type} : List (DataW H) → Nat
  | [] => 0
  | d :: r => uptoBulk d + uptoBulkAll r
def uptoBulkEntries {H : Type} : List (Lit × DataW H) → Nat
  | [] => 0
  | x :: r => uptoBulkEntry x + uptoBulkEntries r
def uptoBulkEntry {H : Type} : Lit × DataW H → Nat
  | (.string bytes, d) => bytes.length + uptoBulk d + 1
  | (_, d) => uptoBulk d + 1
 end
def uptoSmall : (H : Type) → List (DataW H) → Bool := fun _ ds => decide (uptoBulkAll ds ≤ 1048576)
def OpenSpec.upto (s : _root_.Go.ChangeSpec) : _root_.Go.OpenSpec := { _root_.Go.OpenSpec.ofChange s with cond := some uptoSmall }

/-- 'postmarklaw17.AdmitTells', WHERE WHAT IT READS IS OF BULK AT MOST 1048576: true; the input reads as it did. -/
def admitTellsUptoRow : OpenClaim := { program := "ytkkgjmfnlabbdaa", sum := "175176b728c2a31bc5bfcc3975dde3a103fb22c8cbe8cebe491f730bff30f457", func := "postmark/postmarklaw17.AdmitTells", spec := "admitTells", unfollowed := true, recurses := true, named := ["math/bits.divideError", "math/bits.overflowError"], apart := false, narrowed := true }
def AdmitTellsUptoSaid : Prop := admitTellsUptoRow.holds Try.pinned (OpenSpec.upto admitTellsSpec)

/-- 'postmarklaw17.AdmitSigned', WHERE WHAT IT READS IS OF BULK AT MOST 1048576: true; the input reads as it did. -/
def admitSignedUptoRow : OpenClaim := { program := "ytkkgjmfnlabbdaa", sum := "175176b728c2a31bc5bfcc3975dde3a103fb22c8cbe8cebe491f730bff30f457", func := "postmark/postmarklaw17.AdmitSigned", spec := "admitSigned", unfollowed := true, recurses := true, named := ["math/bits.divideError", "math/bits.overflowError"], apart := false, narrowed := true }
def AdmitSignedUptoSaid : Prop := admitSignedUptoRow.holds Try.pinned (OpenSpec.upto admitSignedSpec)

/-- 'postmarklaw17.AdmitTwice', WHERE WHAT IT READS IS OF BULK AT MOST 1048576: true; the input reads as it did. -/
def admitTwiceUptoRow : OpenClaim := { program := "ytkkgjmfnlabbdaa", sum := "175176b728c2a31bc5bfcc3975dde3a103fb22c8cbe8cebe491f730bff30f457", func := "postmark/postmarklaw17.AdmitTwice", spec := "admitTwice", unfollowed := true, recurses := true, named := ["math/bits.divideError", "math/bits.overflowError"], apart := false, narrowed := true }
def AdmitTwiceUptoSaid : Prop := admitTwiceUptoRow.holds Try.pinned (OpenSpec.upto admitTwiceSpec)

/-- 'postmarklaw17.AdmitForms', WHERE WHAT IT READS IS OF BULK AT MOST 1048576: true; the input reads as it did. -/
def admitFormsUptoRow : OpenClaim := { program := "ytkkgjmfnlabbdaa", sum := "175176b728c2a31bc5bfcc3975dde3a103fb22c8cbe8cebe491f730bff30f457", func := "postmark/postmarklaw17.AdmitForms", spec := "admitForms", unfollowed := true, recurses := true, named := ["math/bits.divideError", "math/bits.overflowError"], apart := false, narrowed := true }
def AdmitFormsUptoSaid : Prop := admitFormsUptoRow.holds Try.pinned (OpenSpec.upto admitFormsSpec)

/-- 'postmarklaw17.AdmitNext', WHERE WHAT IT READS IS OF BULK AT MOST 1048576: true; the input reads as it did. -/
def admitNextUptoRow : OpenClaim := { program := "ytkkgjmfnlabbdaa", sum := "175176b728c2a31bc5bfcc3975dde3a103fb22c8cbe8cebe491f730bff30f457", func := "postmark/postmarklaw17.AdmitNext", spec := "admitNext", unfollowed := true, recurses := true, named := ["math/bits.divideError", "math/bits.overflowError"], apart := false, narrowed := true }
def AdmitNextUptoSaid : Prop := admitNextUptoRow.holds Try.pinned (OpenSpec.upto admitNextSpec)

end Rows
end Go.Proofs.Ytkkgjmfnlabbdaa
