import Derived.Test.YtmjokdhhniblgaaGreatYHy
import Derived.Test.YtmjokdhhniblgaaGreatYOq
/-
  Entries that come in.
-/
namespace Go.Proofs.YtmjokdhhniblgaaGreat
set_option linter.unusedVariables false
set_option linter.unusedSimpArgs false
open Go.RowKit Pl
set_option maxRecDepth 100000
theorem shp_str {P : Program} {d t : Nat} {cs : List DV} (hu : P.underlying t = some .string) (h : Shp P (d + 1) t cs) : ∃ l, cs = [.v (.string ⟨⟨l⟩⟩)] ∧ l.length ≤ maxLen := by
  unfold Shp at h; simpa only [hu] using h
theorem shp_entry {d : Nat} (cs : List DV) (h : Shp Tryz.prog (d + 2) 38 cs) : ∃ x : En, True ∧ cs = x.dv := by
  unfold Shp at h
  simp only [Tryz.underlying38] at h
  obtain ⟨a, b, rfl, h1, a2, b2, rfl, h2, a3, b3, rfl, h3, rfl⟩ := h
  obtain ⟨s, rfl, _⟩ := shp_str Tryz.underlying9 h1
  obtain ⟨n, rfl, _⟩ := shp_int Tryz.underlying3 h2
  obtain ⟨k, rfl, _⟩ := shp_int Tryz.underlying24 h3
  exact ⟨⟨s, n, k⟩, trivial, rfl⟩
theorem o_entries {X : DV} (h : ShV Tryz.prog 6 23 X) : ∃ l : List En, X = slT En.dv 3 l ∧ True := by
  obtain ⟨l, h1, _⟩ := shp_sl (p := fun _ => True) Tryz.underlying23 (by kernel_rfl) shp_entry h
  exact ⟨l, h1, trivial⟩
end Go.Proofs.YtmjokdhhniblgaaGreat

