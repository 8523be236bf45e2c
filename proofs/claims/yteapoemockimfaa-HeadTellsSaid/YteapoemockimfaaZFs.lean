/-
  What a reader tells, step by step: plain words.
-/
import Derived.Test.YteapoemockimfaaZFg
namespace Go.Proofs.Yteapoemockimfaa
set_option linter.unusedVariables false
set_option linter.unusedSimpArgs false
open Go.RowKit Pl
abbrev RS := List UInt8 × Int
def rdS (s : RS) (n : Nat) : RS := (rawRest s.1 s.2 n, rawErr s.1 s.2 n)
def rdN (s : RS) : Int := leNum (rawOut s.1 s.2 8)
def rdH (s : RS) : H := ofL (rawOut s.1 s.2 32)
theorem rdS_le (s : RS) (n : Nat) : (rdS s n).1.length ≤ s.1.length := rawRest_le _ _ _
theorem rdN_bd (s : RS) : 0 ≤ rdN s ∧ rdN s < 18446744073709551616 := leNum_u64 _ (rawOut_le _ _ _)
theorem rdS_app (a b : List UInt8) {n : Nat} (h : a.length = n) : rdS (a ++ b, 0) n = (b, 0) := by
  subst h
  obtain ⟨_, h2, h3⟩ := rd_ok (l := a ++ b) (n := a.length) rfl (by simp)
  unfold rdS; simp only [h2, h3, List.drop_left']
theorem rdN_app (a b : List UInt8) (h : a.length = 8) : rdN (a ++ b, 0) = leNum a := by
  obtain ⟨h1, _, _⟩ := rd_ok (l := a ++ b) (n := 8) rfl (by simp; omega)
  unfold rdN; simp only [h1]; rw [List.take_left' h]
theorem rdH_app (x : H) (b : List UInt8) : rdH (H.l x ++ b, 0) = x := by
  obtain ⟨h1, _, _⟩ := rd_ok (l := H.l x ++ b) (n := 32) rfl (by simp [H.l_len])
  unfold rdH; simp only [h1]; rw [List.take_left' (H.l_len x), ofL_H]
end Go.Proofs.Yteapoemockimfaa

