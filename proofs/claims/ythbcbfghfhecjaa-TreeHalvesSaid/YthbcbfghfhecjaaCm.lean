/-
  Numbers of lists, that all layers share.
-/
import Derived.Test.YthbcbfghfhecjaaPr
namespace Go.Proofs.Ythbcbfghfhecjaa
set_option linter.unusedVariables false
set_option linter.unusedSimpArgs false
open Go.RowKit Pl

theorem get_nat {α : Type} {l : List α} {k : Nat} (h : k < l.length) : l[((k : Nat) : Int).toNat]? = some l[k] := by rw [Int.toNat_natCast]; exact List.getElem?_eq_getElem h
theorem wrap_succ {k n : Nat} (h : k < n) (hn : n ≤ 140737488355328) : IntKind.i64.wrap ((k : Int) + 1) = ((k + 1 : Nat) : Int) := by rw [IntKind.wrap_i64]; omega
theorem take_snoc' {α : Type} {l : List α} {k : Nat} (h : k < l.length) : l.take (k + 1) = l.take k ++ [l[k]] := by rw [List.take_succ_eq_append_getElem h]
theorem half_eq (n : Nat) : ((n : Nat) : Int).fdiv (2 ^ (min (1 : Int).toNat IntKind.u64.bits)) = ((n / 2 : Nat) : Int) := by
  have : (2 : Int) ^ (min (1 : Int).toNat IntKind.u64.bits) = 2 := by decide
  rw [this, Int.fdiv_eq_ediv_of_nonneg _ (by omega)]; omega
theorem wrap_nat (n : Nat) (h : n ≤ 281474976710656) : IntKind.i64.wrap (n : Int) = n := by rw [IntKind.wrap_i64]; omega
theorem wrap_natu (n : Nat) (h : n ≤ 281474976710656) : IntKind.u64.wrap (n : Int) = n := by rw [IntKind.wrap_u64]; omega
theorem wrap_add (i j : Nat) (h : i + j ≤ 281474976710656) : IntKind.i64.wrap ((i : Int) + j) = ((i + j : Nat) : Int) := by rw [IntKind.wrap_i64]; omega
theorem fold_snoc {α β : Type} (f : β → α → β) (b : β) {l : List α} {k : Nat} (h : k < l.length) : (l.take (k + 1)).foldl f b = f ((l.take k).foldl f b) l[k] := by rw [take_snoc' h, List.foldl_append]; rfl
theorem wrap_pred {k : Nat} (h : 0 < k) (hn : k ≤ 140737488355328) : IntKind.i64.wrap ((k : Int) - 1) = ((k - 1 : Nat) : Int) := by rw [IntKind.wrap_i64]; omega
end Go.Proofs.Ythbcbfghfhecjaa
