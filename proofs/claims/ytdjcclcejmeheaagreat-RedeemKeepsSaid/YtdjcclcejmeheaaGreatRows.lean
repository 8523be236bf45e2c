/-
  No cell of these rows narrows 'for every input' (looked for: loops, veiled, ifaces, maps, wideKeys, modest, calm, conditions, laid).
  DERIVED. THE GIVEN ROWS OF THIS SEAT. 4 by the template 'for every input the law returns true; each argument reads behind the call as it read before'; 0 by the template 'total and deterministic' (their statements: YtdjcclcejmeheaaGreatTotals.lean).
  GIVEN WITH THE SEED: the statements are not yours to turn. If you find one false, say at which input.
  Laid BY PROGRAM, IN A SANDBOX (cutbox-rows.mjs): the forced cells as the released guide's own fill.sh prints them over the translation 315eba5f69a479f7… (all of the seat's roots in one cut). By AI agents, Wed Nov 11 2026. No macro, syntax, notation, axiom, sorry.
-/
import Derived.Test.YtdjcclcejmeheaaGreatChecked
import GoSem.Claim
import GoSem.ClaimJoined
import GoSem.ClaimMapViews
import Derived.JoinedTies
import Derived.KernelRfl
namespace Go.Proofs.YtdjcclcejmeheaaGreat
/- THE CELL 'sum', in the pinned program and in every row, IS THE sha256 OF THE DUMP (.gsa) THAT YtdjcclcejmeheaaGreatProg.lean LOADS. Nothing in Lean hashes anything: it is a label: what it is worth is what the hold of that sum in a sandbox is worth. -/
noncomputable def Tryz.pinned : Pinned := { name := "ytdjcclcejmeheaagreat", sum := "315eba5f69a479f756bb5587a8e09d121c7034a11b146cab309097377e1c1c3a", checked := Tryz.checked }
namespace Rows
def none {H : Type} : Left H := { results := [], args := [] }

/-- 'postmarklaw25.RedeemTells': WHATEVER THE INPUT: true; the input reads as it did. -/
def redeemTellsSpec : ChangeSpec := { name := "redeemTells", fn := fun _ => fun
  | [d1, d2, d3, d4, d5, d6, d7, d8, d9, d10, d11] => { results := [.lit (.bool true)], args := [d1, d2, d3, d4, d5, d6, d7, d8, d9, d10, d11] }
  | _ => none }
def redeemTellsRow : OpenClaim := { program := "ytdjcclcejmeheaagreat", sum := "315eba5f69a479f756bb5587a8e09d121c7034a11b146cab309097377e1c1c3a", func := "postmark/postmarklaw25.RedeemTells", spec := "redeemTells", unfollowed := true, recurses := true, named := ["math/bits.divideError", "math/bits.overflowError"], apart := false }
def RedeemTellsSaid : Prop := redeemTellsRow.holds Tryz.pinned (OpenSpec.ofChange redeemTellsSpec)

/-- ITS FALSE NEIGHBOUR: 'it returns false'. Refute it at one input. -/
def redeemTellsWrong : ChangeSpec := { name := "redeemTells", fn := fun _ => fun
  | [d1, d2, d3, d4, d5, d6, d7, d8, d9, d10, d11] => { results := [.lit (.bool false)], args := [d1, d2, d3, d4, d5, d6, d7, d8, d9, d10, d11] }
  | _ => none }
def RedeemTellsWrongFalsely : Prop := redeemTellsRow.holds Tryz.pinned (OpenSpec.ofChange redeemTellsWrong)

/-- 'postmarklaw25.RedeemKeeps': WHATEVER THE INPUT: true; the input reads as it did. -/
def redeemKeepsSpec : ChangeSpec := { name := "redeemKeeps", fn := fun _ => fun
  | [d] => { results := [.lit (.bool true)], args := [d] }
  | _ => none }
def redeemKeepsRow : OpenClaim := { program := "ytdjcclcejmeheaagreat", sum := "315eba5f69a479f756bb5587a8e09d121c7034a11b146cab309097377e1c1c3a", func := "postmark/postmarklaw25.RedeemKeeps", spec := "redeemKeeps", unfollowed := true, recurses := true, named := ["math/bits.divideError", "math/bits.overflowError"], apart := false }
def RedeemKeepsSaid : Prop := redeemKeepsRow.holds Tryz.pinned (OpenSpec.ofChange redeemKeepsSpec)

/-- ITS FALSE NEIGHBOUR: 'it returns false'. Refute it at one input. -/
def redeemKeepsWrong : ChangeSpec := { name := "redeemKeeps", fn := fun _ => fun
  | [d] => { results := [.lit (.bool false)], args := [d] }
  | _ => none }
def RedeemKeepsWrongFalsely : Prop := redeemKeepsRow.holds Tryz.pinned (OpenSpec.ofChange redeemKeepsWrong)

/-- 'postmarklaw25.RedeemGrows': WHATEVER THE INPUT: true; the input reads as it did. -/
def redeemGrowsSpec : ChangeSpec := { name := "redeemGrows", fn := fun _ => fun
  | [d1, d2, d3, d4, d5, d6] => { results := [.lit (.bool true)], args := [d1, d2, d3, d4, d5, d6] }
  | _ => none }
def redeemGrowsRow : OpenClaim := { program := "ytdjcclcejmeheaagreat", sum := "315eba5f69a479f756bb5587a8e09d121c7034a11b146cab309097377e1c1c3a", func := "postmark/postmarklaw25.RedeemGrows", spec := "redeemGrows", unfollowed := true, recurses := true, named := ["math/bits.divideError", "math/bits.overflowError"], apart := false }
def RedeemGrowsSaid : Prop := redeemGrowsRow.holds Tryz.pinned (OpenSpec.ofChange redeemGrowsSpec)

/-- ITS FALSE NEIGHBOUR: 'it returns false'. Refute it at one input. -/
def redeemGrowsWrong : ChangeSpec := { name := "redeemGrows", fn := fun _ => fun
  | [d1, d2, d3, d4, d5, d6] => { results := [.lit (.bool false)], args := [d1, d2, d3, d4, d5, d6] }
  | _ => none }
def RedeemGrowsWrongFalsely : Prop := redeemGrowsRow.holds Tryz.pinned (OpenSpec.ofChange redeemGrowsWrong)

/-- 'postmarklaw25.RedeemLate': WHATEVER THE INPUT: true; the input reads as it did. -/
def redeemLateSpec : ChangeSpec := { name := "redeemLate", fn := fun _ => fun
  | [d1, d2, d3] => { results := [.lit (.bool true)], args := [d1, d2, d3] }
  | _ => none }
def redeemLateRow : OpenClaim := { program := "ytdjcclcejmeheaagreat", sum := "315eba5f69a479f756bb5587a8e09d121c7034a11b146cab309097377e1c1c3a", func := "postmark/postmarklaw25.RedeemLate", spec := "redeemLate", unfollowed := true, recurses := true, named := ["math/bits.divideError", "math/bits.overflowError"], apart := false }
def RedeemLateSaid : Prop := redeemLateRow.holds Tryz.pinned (OpenSpec.ofChange redeemLateSpec)

/-- ITS FALSE NEIGHBOUR: 'it returns false'. Refute it at one input. -/
def redeemLateWrong : ChangeSpec := { name := "redeemLate", fn := fun _ => fun
  | [d1, d2, d3] => { results := [.lit (.bool false)], args := [d1, d2, d3] }
  | _ => none }
def RedeemLateWrongFalsely : Prop := redeemLateRow.holds Tryz.pinned (OpenSpec.ofChange redeemLateWrong)

/- THE SECOND FORM. 'bulk': how many values and letters a reading holds, each counted each time it is reached (what is shared counts as often as it is met; a slice's spare places count too). A statement '..UptoSaid' is the law's where the arguments, and the package variables that the reading takes, are together of bulk at most 1048576: NARROWER than '..Said'. Prove '..Said' where nothing that the law and all that it calls make is longer than what came in: it says more and counts as full. Else prove '..UptoSaid'. A law counts once. -/
mutual
def uptoBulk {H : Type} : DataW H → Nat
  | .lit (.string bytes) => bytes.length + 1
  | .lit _ => 1
  | .nil => 1
  | .ptr d => uptoBulk d + 1
  | .slice elems spare => uptoBulkAll elems + uptoBulkAll spare + 1
  | .agg parts => uptoBulkAll parts + 1
  | .iface _ d => uptoBulk d + 1
  | .map entries => uptoBulkEntries entries + 1
  | .held _ => 1
def uptoBulkAll {H : Type} : List (DataW H) → Nat
  | [] => 0
  | d :: r => uptoBulk d + uptoBulkAll r
def uptoBulkEntries {H : Type} : List (Lit × DataW H) → Nat
  | [] => 0
  | x :: r => uptoBulkEntry x + uptoBulkEntries r
def uptoBulkEntry {H : Type} : Lit × DataW H → Nat
  | (.string bytes, d) => bytes.length + uptoBulk d + 1
  | (_, d) => uptoBulk d + 1
 end
def uptoSmall : (H : Type) → List (DataW H) → Bool := fun _ ds => decide (uptoBulkAll ds ≤ 1048576)
def OpenSpec.upto (s : _root_.Go.ChangeSpec) : _root_.Go.OpenSpec := { _root_.Go.OpenSpec.ofChange s with cond := some uptoSmall }

/-- 'postmarklaw25.RedeemTells', WHERE WHAT IT READS IS OF BULK AT MOST 1048576: true; the input reads as it did. -/
def redeemTellsUptoRow : OpenClaim := { program := "ytdjcclcejmeheaagreat", sum := "315eba5f69a479f756bb5587a8e09d121c7034a11b146cab309097377e1c1c3a", func := "postmark/postmarklaw25.RedeemTells", spec := "redeemTells", unfollowed := true, recurses := true, named := ["math/bits.divideError", "math/bits.overflowError"], apart := false, narrowed := true }
def RedeemTellsUptoSaid : Prop := redeemTellsUptoRow.holds Tryz.pinned (OpenSpec.upto redeemTellsSpec)

/-- 'postmarklaw25.RedeemKeeps', WHERE WHAT IT READS IS OF BULK AT MOST 1048576: true; the input reads as it did. -/
def redeemKeepsUptoRow : OpenClaim := { program := "ytdjcclcejmeheaagreat", sum := "315eba5f69a479f756bb5587a8e09d121c7034a11b146cab309097377e1c1c3a", func := "postmark/postmarklaw25.RedeemKeeps", spec := "redeemKeeps", unfollowed := true, recurses := true, named := ["math/bits.divideError", "math/bits.overflowError"], apart := false, narrowed := true }
def RedeemKeepsUptoSaid : Prop := redeemKeepsUptoRow.holds Tryz.pinned (OpenSpec.upto redeemKeepsSpec)

/-- 'postmarklaw25.RedeemGrows', WHERE WHAT IT READS IS OF BULK AT MOST 1048576: true; the input reads as it did. -/
def redeemGrowsUptoRow : OpenClaim := { program := "ytdjcclcejmeheaagreat", sum := "315eba5f69a479f756bb5587a8e09d121c7034a11b146cab309097377e1c1c3a", func := "postmark/postmarklaw25.RedeemGrows", spec := "redeemGrows", unfollowed := true, recurses := true, named := ["math/bits.divideError", "math/bits.overflowError"], apart := false, narrowed := true }
def RedeemGrowsUptoSaid : Prop := redeemGrowsUptoRow.holds Tryz.pinned (OpenSpec.upto redeemGrowsSpec)

/-- 'postmarklaw25.RedeemLate', WHERE WHAT IT READS IS OF BULK AT MOST 1048576: true; the input reads as it did. -/
def redeemLateUptoRow : OpenClaim := { program := "ytdjcclcejmeheaagreat", sum := "315eba5f69a479f756bb5587a8e09d121c7034a11b146cab309097377e1c1c3a", func := "postmark/postmarklaw25.RedeemLate", spec := "redeemLate", unfollowed := true, recurses := true, named := ["math/bits.divideError", "math/bits.overflowError"], apart := false, narrowed := true }
def RedeemLateUptoSaid : Prop := redeemLateUptoRow.holds Tryz.pinned (OpenSpec.upto redeemLateSpec)

end Rows
end Go.Proofs.YtdjcclcejmeheaaGreat
