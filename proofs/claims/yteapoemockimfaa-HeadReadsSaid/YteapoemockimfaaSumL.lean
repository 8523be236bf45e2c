/-
  The sponge's hash as a plain function.
-/
import Derived.Test.YteapoemockimfaaTxt
import Derived.Test.YteapoemockimfaaSpD
import Derived.Test.YteapoemockimfaaReg
namespace Go.Proofs.Yteapoemockimfaa
set_option linter.unusedVariables false
set_option linter.unusedSimpArgs false
open Go.RowKit

/-- Zeros till the length is a multiple of eight. -/
def zerosFor (n : Nat) : Nat := (8 - n % 8) % 8
def padB (l : List UInt8) : List UInt8 := (l ++ [1]) ++ List.replicate (zerosFor (l.length + 1)) 0
theorem padB_mod (l : List UInt8) : (padB l).length % 8 = 0 := by unfold padB zerosFor; simp; omega
theorem padB_len (l : List UInt8) : (padB l).length ≤ l.length + 8 := by unfold padB zerosFor; simp; omega

def st0 : St := permF ⟨8800401358850, 0, 0, 0, 0⟩
/-- A word goes in. -/
def absorb1 (s : St) (c : List UInt8) : St := permF ⟨bxor s.a (leNum c), s.b, s.c, s.d, s.e⟩
/-- The state behind the first n words. -/
def absorbN (l : List UInt8) : Nat → St
  | 0 => st0
  | n + 1 => absorb1 (absorbN l n) ((l.drop (8 * n)).take 8)
def absorb (l : List UInt8) : St := absorbN (padB l) ((padB l).length / 8)
def sq (s : St) : Nat → St
  | 0 => s
  | n + 1 => permF (sq s n)
/-- The hash. -/
def sumB (l : List UInt8) : List UInt8 := numB (absorb l).a ++ numB (sq (absorb l) 1).a ++ numB (sq (absorb l) 2).a ++ numB (sq (absorb l) 3).a
theorem sumB_length (l : List UInt8) : (sumB l).length = 32 := rfl

/-- A hash as a value. -/
def hashV (h : List UInt8) : Value := .agg (bvs h).toArray

theorem own_setRow {w : World} {B : Nat} {v : Value} {l : List UInt8} (h : Own w B v l) {g : Nat} (hg : g < B) (cs : Array Value) : Own (w.setRow g cs) B v l := by
  refine ⟨h.1, ?_⟩
  rcases h.2 with h | ⟨g', cap, cur, hv, hb, hh, r⟩
  · exact .inl h
  · exact .inr ⟨g', cap, cur, hv, hb, by rw [setRow_other _ _ _ _ (by omega)]; exact hh, r⟩
theorem own_drewN {w : World} {B : Nat} {v : Value} {l : List UInt8} (h : Own w B v l) (n : Nat) : Own (w.drewN n) B v l := h
theorem St.set_a (s : St) (x : Int) : s.cells.setIfInBounds 0 (.int .u64 x) = (St.mk x s.b s.c s.d s.e).cells := rfl

theorem arr32_info : (Try.prog.info? 23).map (·.size) = some 32 := by kernel_rfl
end Go.Proofs.Yteapoemockimfaa
