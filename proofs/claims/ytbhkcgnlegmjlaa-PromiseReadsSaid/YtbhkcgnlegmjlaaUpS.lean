/-
  Names, secrets, keys and requests of few numbers.
-/
import Derived.Test.YtbhkcgnlegmjlaaUpP
import Derived.Test.YtbhkcgnlegmjlaaUpE
namespace Go.Proofs.Ytbhkcgnlegmjlaa
set_option linter.unusedVariables false
set_option linter.unusedSimpArgs false
open Go.RowKit

/-- The name of a number. -/
def nameL (k : Int) : List UInt8 := if k % 6 = 0 then [97] else if k % 6 = 1 then [98] else if k % 6 = 2 then [97, 110, 110] else if k % 6 = 3 then [98, 111, 98] else if k % 6 = 4 then [195, 169] else [48, 49, 50, 51, 52, 53, 54, 55, 56, 57, 48, 49, 50, 51, 52, 53, 54, 55, 56, 57, 48, 49, 50, 51, 52, 53, 54, 55, 56, 57, 48, 122]
theorem nameL_len (k : Int) : 1 ≤ (nameL k).length ∧ (nameL k).length ≤ 32 := by
  unfold nameL
  refine ⟨?_, ?_⟩ <;> (repeat' split) <;> simp

set_option maxRecDepth 100000 in
set_option maxHeartbeats 3200000 in
theorem name_any (k : Int) (w : World) (k0 : 0 ≤ k) (k1 : k < 256) :
    Calls Try.prog 19 #[.int .u8 k] w fun e w' => e = .returned (.string ⟨(nameL k).toArray⟩) ∧ Below w.heap.size w w' := by
  have h : k % 6 = 0 ∨ k % 6 = 1 ∨ k % 6 = 2 ∨ k % 6 = 3 ∨ k % 6 = 4 ∨ k % 6 = 5 := by omega
  rcases h with h | h | h | h | h | h
  all_goals
    (have hn := congrArg List.toArray (show nameL k = nameL k from rfl)
     conv at hn => rhs; unfold nameL; rw [h]
     simp only [reduceIte, Int.reduceEq] at hn
     rw [hn]
     clear hn
     go_enter Try.func19, Try.ntmps19
     go_wp2_with fail
     go_ret
     exact ⟨rfl, bl_alloc (Below.refl _ _) _⟩)

/-- The secret of a name's version. -/
def secStep (n : Int) (c : UInt8) : Int := u64 (u64 (n * 31) + c.toNat)
def secN (nm : List UInt8) : Int := nm.foldl secStep (u64 (nm.length * 1000003))
def secF (nm : List UInt8) (v : Int) (alt : Bool) : Int :=
  if alt then u64 (u64 (u64 (secN nm % 1000000007 + u64 (u64 v * 7919)) + 11) + 500) else u64 (u64 (secN nm % 1000000007 + u64 (u64 v * 7919)) + 11)
theorem secF_bd (nm : List UInt8) (v : Int) (alt : Bool) : isU64 (secF nm v alt) := by
  unfold secF; split <;> exact u64_bd _
theorem sec_take (nm : List UInt8) (i : Nat) (h : i < nm.length) (z : Int) : (nm.take (i + 1)).foldl secStep z = secStep ((nm.take i).foldl secStep z) nm[i] := by
  rw [List.take_succ_eq_append_getElem h, List.foldl_append]; rfl
theorem secI_bd (nm : List UInt8) (i : Nat) : isU64 ((nm.take i).foldl secStep (u64 (nm.length * 1000003))) := by
  induction i with
  | zero => exact u64_bd _
  | succ i ih =>
    by_cases h : i < nm.length
    · rw [sec_take nm i h]; exact u64_bd _
    · rw [List.take_of_length_le (by omega)] at ih ⊢; exact ih

end Go.Proofs.Ytbhkcgnlegmjlaa
