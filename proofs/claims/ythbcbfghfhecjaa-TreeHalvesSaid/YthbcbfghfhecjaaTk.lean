/-
  Trees: halves; lists that hold the same items: the values.
-/
import Derived.Test.YthbcbfghfhecjaaTj
namespace Go.Proofs.Ythbcbfghfhecjaa
set_option linter.unusedVariables false
set_option linter.unusedSimpArgs false
open Go.RowKit Pl

/-! Halves. -/
def selB (s : Nat) (x : It) : Bool := bitN x.ix 0 == s
theorem selB_dec (s : Nat) (x : It) : decide (bitI x.ix 0 = ((s : Nat) : Int)) = selB s x := by
  unfold selB
  rw [show bitI x.ix 0 = ((bitN x.ix 0 : Nat) : Int) from bitI_nat x.ix (k := 0) (by decide)]
  by_cases h : bitN x.ix 0 = s
  · simp [h]
  · have : ¬ ((bitN x.ix 0 : Nat) : Int) = (s : Int) := by omega
    simp [h, this]
theorem sel0 (X : List It) : X.filter (bit0 0) = X.filter (selB 0) := rfl
theorem sel1 (X : List It) : X.filter (fun x => !bit0 0 x) = X.filter (selB 1) := by
  congr 1; funext x
  have := bitN_lt x.ix 0
  unfold bit0 selB
  rcases (show bitN x.ix 0 = 0 ∨ bitN x.ix 0 = 1 by omega) with h | h <;> rw [h] <;> rfl
def hvs (X : List It) (s j : Nat) : H := if j < s then belowH 256 1 (X.filter (selB j)) else zeroH
theorem root_two {X : List It} (hs : Str X) (h2 : ¬ X.length < 2) : rootH X = nodeH (hvs X 2 0) (hvs X 2 1) := by
  show belowH (256 + 1) 0 (setR X []) = _
  rw [setR_self hs, belowH_two h2, sel0, sel1]
  rfl
theorem okT_half {X : List It} (hs : Str X) (h2 : ¬ X.length < 2) {s : Nat} (h : s < 2) : okT 255 1 (X.filter (selB s)) := by
  obtain ⟨g, e, _, _, h3, h4⟩ := okT_two (okT_str hs) h2
  obtain rfl : g = 255 := by omega
  rw [sel0] at h3
  rw [sel1] at h4
  rcases (show s = 0 ∨ s = 1 by omega) with rfl | rfl
  · exact h3
  · exact h4
theorem pair_set (X : List It) {s : Nat} (h : s < 2) : Pl.splice (It.mk (hvs X s 0) (hvs X s 1)).dv (s * 32) (hdv (belowH 256 1 (X.filter (selB s)))) = (It.mk (hvs X (s + 1) 0) (hvs X (s + 1) 1)).dv := by
  rcases (show s = 0 ∨ s = 1 by omega) with rfl | rfl <;> rfl
theorem pair_zero (X : List It) : (It.mk zeroH zeroH).dv = (It.mk (hvs X 0 0) (hvs X 0 1)).dv := rfl
/-! The same items. -/
theorem swI_perm (ys : List It) {i j : Nat} (hi : i < ys.length) (hj : j < ys.length) (z : It) : z ∈ swI ys i j ↔ z ∈ ys := by
  unfold swI
  rw [at_eq hi, at_eq hj]
  exact (List.set_set_perm hi hj).mem_iff
theorem setR_same {X ys zs : List It} (hX : Str X) (h : ∀ z, z ∈ ys ++ zs ↔ z ∈ X) : setR ys zs = X := setR_of hX (fun y hy => (h y).1 hy) (fun y hy => (h y).2 hy)
theorem root_same {X ys : List It} (hX : Str X) (h : ∀ z, z ∈ ys ↔ z ∈ X) : rootH ys = rootH X := by
  unfold rootH
  rw [setR_same hX (ys := ys) (zs := []) (by simpa using h), setR_self hX]
def pdv (p : List It × List It) : List DV := [slT It.dv 64 p.1, slT It.dv 64 p.2]
def and255 (i : Int) : Int := IntKind.i64.wrap (BitVec.ofInt IntKind.i64.bits i &&& BitVec.ofInt IntKind.i64.bits 255).toNat
end Go.Proofs.Ythbcbfghfhecjaa
