/-
  edge: it tells some number of 64 bits.
-/
import Derived.Test.YtogkgooobmfeoaaFldR
namespace Go.Proofs.Ytogkgooobmfeoaa
set_option linter.unusedVariables false
set_option linter.unusedSimpArgs false
open Go.RowKit

/-- Some number of 64 bits; what was there stays. -/
def SomeU64 (w : World) (e : Ending) (w' : World) : Prop := ∃ r : Int, e = .returned (.int .u64 r) ∧ 0 ≤ r ∧ r < 18446744073709551616 ∧ Below w.heap.size w w'

set_option maxRecDepth 100000 in
set_option maxHeartbeats 4000000 in
theorem edge_any (n k : Int) (w : World) (hn : 0 ≤ n) (hn1 : n < 18446744073709551616) (hk : 0 ≤ k) (hk1 : k < 256) :
    Calls Try.prog 9 #[.int .u64 n, .int .u8 k] w (SomeU64 w) := by
  have m0 : 0 ≤ n % 2305843009213693951 := by omega
  have m1 : n % 2305843009213693951 < 18446744073709551616 := by omega
  obtain ⟨j, hj⟩ : ∃ j, k % 14 = j := ⟨_, rfl⟩
  have hc : j = 0 ∨ j = 1 ∨ j = 2 ∨ j = 3 ∨ j = 4 ∨ j = 5 ∨ j = 6 ∨ j = 7 ∨ j = 8 ∨ j = 9 ∨ j = 10 ∨ j = 11 ∨ j = 12 ∨ j = 13 := by omega
  rcases hc with rfl | rfl | rfl | rfl | rfl | rfl | rfl | rfl | rfl | rfl | rfl | rfl | rfl | rfl
  all_goals
    go_enter Try.func9, Try.ntmps9
    go_wp2
    go_ret
    exact ⟨_, rfl, by omega, by omega, (Below.refl _ _).alloc (Nat.le_refl _) _⟩
end Go.Proofs.Ytogkgooobmfeoaa
