/-
  What is known of the least trees' proofs.
-/
import Derived.Test.YtejhgijjegnmnaaZFl
namespace Go.Proofs.Ytejhgijjegnmnaa
set_option linter.unusedVariables false
set_option linter.unusedSimpArgs false
open Go.RowKit Pl
theorem made_one (x : It) : mkP x.ix (setR [x] []) = ⟨[], 0, x⟩ := by
  rw [setR_one]
  exact mkP_here (path := []) (x := x) (by rw [mkG_end (by simp)]) (by rw [mkG_end (by simp)]) rfl
theorem made_nil (ix : H) : mkP ix (setR [] []) = ⟨[], 1, zeroIt⟩ := by
  rw [setR_nil]
  exact mkP_nil (path := []) (by rw [mkG_end (by simp)]) (by rw [mkG_end (by simp)])
theorem check_one (x : It) : checkV (tagH 108 [H.l x.ix, H.l x.vl]) x.ix ⟨[], 0, x⟩ = (x.vl, true, true) := by
  have h := check_made x.ix [x]
  rw [root_one, made_one, if_pos (thereB_iff.2 ⟨x, by simp, rfl⟩)] at h
  exact h
theorem check_nil (ix : H) : checkV (tagH 122 []) ix ⟨[], 1, zeroIt⟩ = (zeroH, false, true) := by
  have h := check_made ix []
  rw [root_nil, made_nil, if_neg (by unfold thereB; simp)] at h
  exact h
theorem right_one (x : It) : rightF x.ix ⟨[], 0, x⟩ = true := by have := rightF_made x.ix [x]; rwa [made_one] at this
theorem read_one (x : It) : readP (putB ⟨[], 0, x⟩) = (⟨[], 0, x⟩, 0) := by
  have := read_put ⟨[], 0, x⟩ [] (by simp) (by simp) (by simp)
  rwa [List.append_nil, if_pos rfl] at this
end Go.Proofs.Ytejhgijjegnmnaa

