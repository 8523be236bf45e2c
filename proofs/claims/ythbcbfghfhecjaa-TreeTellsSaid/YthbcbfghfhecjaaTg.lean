/-
  Trees: lists joined; places of sides; what is below: the values.
-/
import Derived.Test.YthbcbfghfhecjaaTf
import Derived.Test.YthbcbfghfhecjaaPt
namespace Go.Proofs.Ythbcbfghfhecjaa
set_option linter.unusedVariables false
set_option linter.unusedSimpArgs false
open Go.RowKit Pl

def ildv (l : List It) : List DV := [slT It.dv 64 l]
theorem flat_take_succ {xss : List (List It)} {i : Nat} (h : i < xss.length) : (xss.take (i + 1)).flatten = (xss.take i).flatten ++ xss[i] := by rw [take_snoc' h, List.flatten_append]; simp
theorem flat_take_len {xss : List (List It)} {i : Nat} (h : i < xss.length) : (xss.take (i + 1)).flatten.length = (xss.take i).flatten.length + xss[i].length := by rw [flat_take_succ h, List.length_append]
theorem flat_take_le (xss : List (List It)) (i : Nat) : (xss.take i).flatten.length ≤ xss.flatten.length := by
  have := congrArg List.length (congrArg List.flatten (List.take_append_drop i xss))
  rw [List.flatten_append, List.length_append] at this; omega
theorem it_all (l : List It) : (l.flatMap It.dv).all DV.one = true := flat_one it_one l
theorem it_flat (l : List It) : (l.flatMap It.dv).length = l.length * 64 := flat_length it_len l
theorem Pl.PC.nil1 {P : Program} {f : FuncId} {α : Type} {enc : α → List DV} {sz : Nat} {Xs : List DV} {Y : DV} (h : PC P f (slT enc sz [] :: Xs) Y) : PC P f (.v (.slice none 0 0) :: Xs) Y := fun w K us hK hr => h w K us hK (by
  unfold repL at hr ⊢
  obtain ⟨u, t, rfl, h1, h2⟩ := hr
  refine ⟨u, t, rfl, ?_, h2⟩
  unfold DV.rep at h1; subst h1
  unfold slT DV.rep; exact .inl ⟨rfl, rfl, rfl⟩)
theorem Pl.PC.nil2 {P : Program} {f : FuncId} {α : Type} {enc : α → List DV} {sz : Nat} {X : DV} {Xs : List DV} {Y : DV} (h : PC P f (X :: slT enc sz [] :: Xs) Y) : PC P f (X :: .v (.slice none 0 0) :: Xs) Y := fun w K us hK hr => h w K us hK (by
  unfold repL at hr ⊢
  obtain ⟨u, t, rfl, h1, h2⟩ := hr
  refine ⟨u, t, rfl, h1, ?_⟩
  unfold repL at h2 ⊢
  obtain ⟨u2, t2, rfl, h3, h4⟩ := h2
  refine ⟨u2, t2, rfl, ?_, h4⟩
  unfold DV.rep at h3; subst h3
  unfold slT DV.rep; exact .inl ⟨rfl, rfl, rfl⟩)
/-! What is below a place. -/
def bit0 (k : Nat) (x : It) : Bool := bitN x.ix k == 0
def belowH : Nat → Nat → List It → H
  | 0, _, _ => emptyH
  | f + 1, k, l => match l with
    | [] => emptyH
    | [x] => leafH x
    | l => nodeH (belowH f (k + 1) (l.filter (bit0 k))) (belowH f (k + 1) (l.filter (fun x => !bit0 k x)))
theorem bitB_nat {k : Nat} (hk : k < 256) (x : It) : bitB (k : Int) x = !bit0 k x := by
  unfold bitB bit0
  rw [bitI_nat _ hk]
  have := bitN_lt x.ix k
  by_cases h : bitN x.ix k = 0
  · simp [h]
  · have : bitN x.ix k = 1 := by omega
    simp [this]
/-- Items of which those with a 0 at a place stand ahead of those with a 1. -/
def sided (p : It → Bool) : List It → Prop
  | [] => True
  | x :: r => (p x = true → ∀ y ∈ r, p y = true) ∧ sided p r
theorem take_side (p : It → Bool) : ∀ {l : List It}, sided p l → l.take (fst_ p l) = l.filter (fun x => !p x) ∧ l.drop (fst_ p l) = l.filter p
  | [], _ => by simp [fst_]
  | x :: r, ⟨h1, h2⟩ => by
    unfold fst_
    by_cases hx : p x = true
    · have h3 := h1 hx
      rw [if_pos hx]
      refine ⟨?_, ?_⟩
      · rw [List.take_zero, List.filter_cons_of_neg (by simp [hx])]
        exact (List.filter_eq_nil_iff.2 (fun y hy => by simp [h3 y hy])).symm
      · rw [List.drop_zero, List.filter_cons_of_pos hx, List.filter_eq_self.2 h3]
    · obtain ⟨k1, k2⟩ := take_side p h2
      rw [if_neg hx]
      simp only [Bool.not_eq_true] at hx
      refine ⟨?_, ?_⟩
      · rw [List.take_succ_cons, k1, List.filter_cons_of_pos (by simp [hx])]
      · rw [List.drop_succ_cons, k2, List.filter_cons_of_neg (by simp [hx])]
/-- Items that can be told apart by the bits from a place on, those with a 0 ahead. -/
def okT : Nat → Nat → List It → Prop
  | 0, _, l => l.length < 2
  | f + 1, k, l => l.length < 2 ∨ (k < 256 ∧ sided (fun x => !bit0 k x) l ∧ okT f (k + 1) (l.filter (bit0 k)) ∧ okT f (k + 1) (l.filter (fun x => !bit0 k x)))
theorem belowH_two {f k : Nat} {l : List It} (h : ¬ l.length < 2) : belowH (f + 1) k l = nodeH (belowH f (k + 1) (l.filter (bit0 k))) (belowH f (k + 1) (l.filter (fun x => !bit0 k x))) := by
  match l, h with
  | [], h => simp at h
  | [x], h => simp at h
  | x :: y :: r, _ => rfl
theorem okT_two {f k : Nat} {l : List It} (ho : okT f k l) (h : ¬ l.length < 2) : ∃ g, f = g + 1 ∧ k < 256 ∧ sided (fun x => !bit0 k x) l ∧ okT g (k + 1) (l.filter (bit0 k)) ∧ okT g (k + 1) (l.filter (fun x => !bit0 k x)) := by
  cases f with
  | zero => exact absurd ho h
  | succ g => exact ⟨g, rfl, ho.resolve_left h⟩
theorem one_of {l : List It} (h : l.length = 1) : ∃ x, l = [x] := by
  match l, h with
  | [x], _ => exact ⟨x, rfl⟩
theorem filter_nn (p : It → Bool) (l : List It) : l.filter (fun x => !(fun x => !p x) x) = l.filter p := by congr 1; funext x; simp
theorem fst_congr {p q : It → Bool} (h : ∀ x, p x = q x) (l : List It) : fst_ p l = fst_ q l := by rw [show p = q from funext h]
theorem idxF_ones {a : Nat} (h : a < 256) (l : List It) : idxF (a : Int) (l ++ [onesI]) = ((fst_ (fun x => !bit0 a x) l : Nat) : Int) := by
  unfold idxF
  rw [fst_app _ _ (ones_bit (by omega) (by omega)), fst_congr (bitB_nat h), if_pos]
  have := fst_le (fun x => !bit0 a x) l
  simp; omega
/-- What Set gives. -/
def setA (l m : List It) : List It := dd (stI (rvI [l, m].flatten))
theorem rvN_len : ∀ (f : Nat) (xs : List It) (i : Nat), (rvN f xs i).length = xs.length
  | 0, xs, i => rfl
  | f + 1, xs, i => by unfold rvN; split; rw [rvN_len, swI_len]; rfl
theorem rvI_len (xs : List It) : (rvI xs).length = xs.length := rvN_len _ _ _
theorem stM_len : ∀ (f z : Nat) (xs : List It), (stM f z xs).length = xs.length
  | 0, z, xs => rfl
  | f + 1, z, xs => by unfold stM; split; rw [stM_len, stP_len]; rfl
theorem stI_len (xs : List It) : (stI xs).length = xs.length := by unfold stI; rw [stM_len, stB_len]
end Go.Proofs.Ythbcbfghfhecjaa
