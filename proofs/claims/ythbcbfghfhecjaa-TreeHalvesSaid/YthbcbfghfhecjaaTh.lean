/-
  Trees: the reference's Set and sides: the values.
-/
import Derived.Test.YthbcbfghfhecjaaTg
namespace Go.Proofs.Ythbcbfghfhecjaa
set_option linter.unusedVariables false
set_option linter.unusedSimpArgs false
open Go.RowKit Pl

/-- Where an item belongs: the first place that is not ahead of it. -/
def plc (x : It) (out : List It) : Nat := fst_ (fun y => !ltI y x) out
def insR (out : List It) (x : It) : List It := if plc x out < out.length ∧ alike (at_ out (plc x out)) x = true then out.set (plc x out) x else out.take (plc x out) ++ [x] ++ out.drop (plc x out)
def setR (l m : List It) : List It := (l ++ m).foldl insR []
theorem insR_len (out : List It) (x : It) : (insR out x).length ≤ out.length + 1 := by
  unfold insR; split
  · simp
  · simp; have := fst_le (fun y => !ltI y x) out; unfold plc; omega
theorem insR_set {out : List It} {x : It} {k : Nat} (hk : k < out.length) (hp : plc x out = k) (ha : alike out[k] x = true) : insR out x = out.set k x := by
  unfold insR; rw [hp, if_pos ⟨hk, by rw [at_eq hk]; exact ha⟩]
theorem insR_new {out : List It} {x : It} {k : Nat} (hp : plc x out = k) (ha : ∀ hk : k < out.length, ¬ alike out[k] x = true) : insR out x = out.take k ++ [x] ++ out.drop k := by
  unfold insR; rw [hp, if_neg (fun q => ha q.1 (by rw [← at_eq q.1]; exact q.2))]
theorem flat_ix (xs : List It) {i : Nat} (hi : i < xs.length) : ((xs.flatMap It.dv).drop (i * 64)).take 32 = hdv xs[i].ix := by
  have h := flat_at it_len xs hi
  have : ((xs.flatMap It.dv).drop (i * 64)).take 32 = (((xs.flatMap It.dv).drop (i * 64)).take 64).take 32 := by rw [List.take_take]; rfl
  rw [this, h]; rfl
theorem foldl_snoc {l : List It} {k : Nat} (h : k < l.length) : (l.take (k + 1)).foldl insR [] = insR ((l.take k).foldl insR []) l[k] := by rw [take_snoc' h, List.foldl_append]; rfl
theorem plc_at {out : List It} {x : It} {k : Nat} (hk : k < out.length) (h : ltI out[k] x = false) (hj : ∀ j (hj : j < out.length), j < k → ltI out[j] x = true) : plc x out = k := fst_at hk (by simp [h]) (fun j h1 h2 => by simp [hj j h1 h2])
theorem plc_none {out : List It} {x : It} {k : Nat} (hk : ¬ k < out.length) (h0 : k ≤ out.length) (hj : ∀ j (hj : j < out.length), j < k → ltI out[j] x = true) : plc x out = k := by
  have e : k = out.length := by omega
  rw [e]
  exact fst_none (fun j h1 => by simp [hj j h1 (by omega)])
theorem bit0_dec {k : Nat} (hk : k < 256) (x : It) : decide (bitI x.ix (k : Int) = 0) = bit0 k x := by
  unfold bit0
  rw [bitI_nat _ hk]
  by_cases h : bitN x.ix k = 0
  · simp [h]
  · simp [h]
theorem filter_snoc {α : Type} (p : α → Bool) {l : List α} {k : Nat} (h : k < l.length) : (l.take (k + 1)).filter p = if p l[k] = true then (l.take k).filter p ++ [l[k]] else (l.take k).filter p := by
  rw [take_snoc' h, List.filter_append]
  by_cases e : p l[k] = true
  · simp [e]
  · simp [e]
theorem filter_take_le {α : Type} (p : α → Bool) (l : List α) (k : Nat) : ((l.take k).filter p).length ≤ l.length := Nat.le_trans (List.length_filter_le _ _) (by simp; omega)
end Go.Proofs.Ythbcbfghfhecjaa
