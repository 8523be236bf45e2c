/-
  Small words for the laws' walks: a signature's box, bytes as a string.
-/
import Derived.Test.YteapoemockimfaaRow
namespace Go.Proofs.Yteapoemockimfaa
set_option linter.unusedVariables false
set_option linter.unusedSimpArgs false
open Go.RowKit

theorem rd_drewN {w : World} {v : Value} {l : List UInt8} (h : Rd w v l) (n : Nat) : Rd (w.drewN n) v l := h.below (Dr.below (Dr.drewN (Dr.refl _) n) _)
theorem rd_drew {w : World} {v : Value} {l : List UInt8} (h : Rd w v l) : Rd w.drew v l := rd_drewN h 1
theorem putF_len (r s : Int) : (putF r s).length = 16 := by simp [putF, numB_length]
/-- The box of a signature stands, and is old. -/
structure SA (g : Nat) (r s : Int) (w : World) : Prop where
  at_ : SigAt g r s w
  lt : g < w.heap.size
theorem SA.below {g : Nat} {r s : Int} {w w' : World} (h : SA g r s w) (hb : Below w.heap.size w w') : SA g r s w' := ⟨h.at_.below h.lt hb, Nat.lt_of_lt_of_le h.lt hb.size⟩
theorem SA.dr {g : Nat} {r s : Int} {w w' : World} (h : SA g r s w) (hb : Dr w w') : SA g r s w' := h.below (hb.below _)
theorem SA.alloc {g : Nat} {r s : Int} {w : World} (h : SA g r s w) (o : Obj) : SA g r s (w.alloc o) := h.below (bl_alloc (Below.refl _ _) o)
theorem SA.drew {g : Nat} {r s : Int} {w : World} (h : SA g r s w) : SA g r s w.drew := h.dr (Dr.drew (Dr.refl _))
theorem SA.drewN {g : Nat} {r s : Int} {w : World} (h : SA g r s w) (n : Nat) : SA g r s (w.drewN n) := h.dr (Dr.drewN (Dr.refl _) n)
theorem SA.cells {g : Nat} {r s : Int} {w : World} (h : SA g r s w) : w.cell? ⟨g, 0, none⟩ = some (.int .u64 r) ∧ w.cell? ⟨g, 1, none⟩ = some (.int .u64 s) := h.at_
theorem SA.new (r s : Int) (w : World) (fr : Nat × Nat) (T : Nat) : SA w.heap.size r s (w.alloc (.cells #[.int .u64 r, .int .u64 s] T fr)) :=
  ⟨⟨by rw [cell_of_row _ _ _ _ _ _ (heap_alloc_new _ _)]; rfl, by rw [cell_of_row _ _ _ _ _ _ (heap_alloc_new _ _)]; rfl⟩, by simp⟩
theorem bl_drew {a b : World} (h : Below a.heap.size a b) : Below a.heap.size a b.drew := bl_dr h (Dr.drew (Dr.refl _))
theorem SA.both {g g' : Nat} {r s r' s' : Int} {w : World} (h : SA g r s w) (k : SA g' r' s' w) :
    w.cell? ⟨g, 0, none⟩ = some (.int .u64 r) ∧ w.cell? ⟨g, 1, none⟩ = some (.int .u64 s) ∧ w.cell? ⟨g', 0, none⟩ = some (.int .u64 r') ∧ w.cell? ⟨g', 1, none⟩ = some (.int .u64 s') :=
  ⟨h.at_.1, h.at_.2, k.at_.1, k.at_.2⟩
theorem rd_alloc {w : World} {v : Value} {l : List UInt8} (h : Rd w v l) (o : Obj) : Rd (w.alloc o) v l := h.below (bl_alloc (Below.refl _ _) o)
theorem conv_rd {w : World} {v : Value} {l : List UInt8} (h : Rd w v l) : (convert 29 9 v).run Try.prog w = .ok (.string ⟨l.toArray⟩) w := by
  rcases h with ⟨rfl, rfl⟩ | ⟨b, o, c, rfl, hc, hm, hcell⟩
  · exact run_convert_bytes_nil w 29 5 Try.underlying29 Try.underlying5 0 0 _ Try.underlying9
  · refine run_convert_bytes_back w _ _ _ ⟨b, o, none⟩ c l Try.underlying29 Try.underlying5 Try.underlying9 (fun j hj => ?_)
    rw [addr_add]
    exact hcell j hj
end Go.Proofs.Yteapoemockimfaa
