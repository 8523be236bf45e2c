/-
  Proofs that come in; what the laws of proofs use besides.
-/
import Derived.Test.YtejhgijjegnmnaaZFm
import Derived.Test.YtejhgijjegnmnaaZOq
namespace Go.Proofs.Ytejhgijjegnmnaa
set_option linter.unusedVariables false
set_option linter.unusedSimpArgs false
set_option maxRecDepth 20000
open Go.RowKit Pl
theorem Pl.TL.asf {P : Program} {C : Cx} {L : Lo} {Γ : Ga} {ops : Array Oper} {Q : Exit → Act → World → Prop} {rest : List Oper} (t : Nat) {u : Value} (ht : evv L (.tmp t) = some u) (k : TL P C ops Q rest (upd L t (.f (.v u))) Γ) : TL P C ops Q rest L Γ := fun a w ⟨ρ, hr⟩ => k a w ⟨ρ, by
  refine hr.reslot (X := .f (.v u)) ?_ (fun g hg => by simp [AV.id] at hg)
  have := evv_eval hr ht
  show DV.rep _ _ _ _
  unfold DV.rep
  exact this⟩
theorem o_proof {X : DV} (h : ShV Try.prog 6 30 X) : ∃ p : Pf, X = .ag p.dv ∧ (-9223372036854775808 ≤ p.en ∧ p.en < 9223372036854775808) := by
  unfold ShV at h
  simp only [Try.underlying30] at h
  obtain ⟨ds, rfl, h⟩ := h
  unfold Shp at h
  simp only [Try.underlying30] at h
  obtain ⟨a, b, rfl, h1, a2, b2, rfl, h2, a3, b3, rfl, h3, rfl⟩ := h
  unfold Shp at h1
  simp only [Try.underlying26] at h1
  obtain ⟨n, ds, rfl, h1⟩ := h1
  obtain ⟨xs, k1, _, rfl⟩ := shpN_map (p := fun _ => True) (shp_hash (d := 2)) n ds h1
  obtain ⟨e, rfl, hw⟩ := shp_int Try.underlying3 h2
  obtain ⟨it, _, rfl⟩ := shp_item _ h3
  refine ⟨⟨xs, e, it⟩, ?_, i64_in hw⟩
  subst k1
  rfl
theorem check_made' (ix : H) (l : List It) : ∃ v, checkV (rootH l) ix (mkP ix (setR l [])) = (v, thereB ix l, true) ∧ (thereB ix l = false → v = zeroH) := by
  rw [check_made]
  cases thereB ix l with
  | true => exact ⟨_, rfl, fun h => by cases h⟩
  | false => exact ⟨_, rfl, fun _ => rfl⟩
theorem there_snoc {ix : H} {l : List It} {j : Nat} (h : j < l.length) : thereB ix (l.take (j + 1)) = (thereB ix (l.take j) || decide (H.l l[j].ix = H.l ix)) := by
  unfold thereB
  rw [take_snoc' h, List.any_append]; simp
end Go.Proofs.Ytejhgijjegnmnaa

