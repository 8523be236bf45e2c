/-
  Trees: the order of items; lists that are rearranged and keep the order of those that are alike.
-/
import Derived.Test.YthbcbfghfhecjaaTh
namespace Go.Proofs.Ythbcbfghfhecjaa
set_option linter.unusedVariables false
set_option linter.unusedSimpArgs false
open Go.RowKit Pl

/-! The order of bytes. -/
theorem bl_irrefl : ∀ a : List UInt8, Op.bytesLess a a = false
  | [] => rfl
  | x :: a => by unfold Op.bytesLess; simp [bl_irrefl a]
theorem bl_trans : ∀ {a b c : List UInt8}, Op.bytesLess a b = true → Op.bytesLess b c = true → Op.bytesLess a c = true
  | a, b, [], h1, h2 => by cases b <;> simp [Op.bytesLess] at h2
  | [], b, z :: c, _, _ => by simp [Op.bytesLess]
  | x :: a, [], z :: c, h1, _ => by simp [Op.bytesLess] at h1
  | x :: a, y :: b, z :: c, h1, h2 => by
    unfold Op.bytesLess at h1 h2 ⊢
    by_cases e1 : x = y
    · subst e1
      by_cases e2 : x = z
      · subst e2; simp at h1 h2 ⊢; exact bl_trans h1 h2
      · simp [e2] at h2 ⊢; simp at h1; exact h2
    · simp [e1] at h1
      by_cases e2 : y = z
      · subst e2; simp at h2; simp [e1, h1]
      · simp [e2] at h2
        have h3 : x < z := UInt8.lt_trans h1 h2
        have e3 : x ≠ z := fun e => by subst e; exact absurd h3 (UInt8.lt_irrefl _)
        simp [e3, h3]
theorem bl_total : ∀ {a b : List UInt8}, Op.bytesLess a b = false → Op.bytesLess b a = false → a = b
  | [], [], _, _ => rfl
  | [], y :: b, h, _ => by simp [Op.bytesLess] at h
  | x :: a, [], _, h => by simp [Op.bytesLess] at h
  | x :: a, y :: b, h1, h2 => by
    unfold Op.bytesLess at h1 h2
    by_cases e : x = y
    · subst e; simp at h1 h2; rw [bl_total h1 h2]
    · have e' : y ≠ x := fun q => e q.symm
      simp [e] at h1; simp [e'] at h2
      exact absurd (UInt8.le_antisymm h2 h1) e
theorem lt_irrefl (x : It) : ltI x x = false := bl_irrefl _
theorem lt_trans {x y z : It} (h : ltI x y = true) (k : ltI y z = true) : ltI x z = true := bl_trans h k
theorem lt_asymm {x y : It} (h : ltI x y = true) : ltI y x = false := by
  cases e : ltI y x with
  | false => rfl
  | true => have := lt_trans h e; rw [lt_irrefl] at this; cases this
theorem lt_total {x y : It} (h : ltI x y = false) (k : ltI y x = false) : H.l x.ix = H.l y.ix := bl_total h k
theorem le_trans {x y z : It} (h : ltI y x = false) (k : ltI z y = false) : ltI z x = false := by
  cases e : ltI z x with
  | false => rfl
  | true =>
    cases e2 : ltI x y with
    | true => have := lt_trans e e2; rw [k] at this; cases this
    | false =>
      have := lt_total e2 h
      have e3 : ltI z y = true := by unfold ltI at e ⊢; rw [← this]; exact e
      rw [k] at e3; cases e3
theorem lt_le {x y z : It} (h : ltI x y = true) (k : ltI z y = false) : ltI x z = true := by
  cases e : ltI x z with
  | true => rfl
  | false =>
    have := le_trans k e
    rw [h] at this; cases this
theorem le_lt {x y z : It} (h : ltI y x = false) (k : ltI y z = true) : ltI x z = true := by
  cases e : ltI x z with
  | true => rfl
  | false =>
    have := le_trans e h
    rw [k] at this; cases this
theorem lt_ne {x y : It} (h : ltI x y = true) : ¬ H.l x.ix = H.l y.ix := fun e => by unfold ltI at h; rw [e, bl_irrefl] at h; cases h
/-! Rearranged. -/
def cls (k : List UInt8) (xs : List It) : List It := xs.filter (fun x => decide (H.l x.ix = k))
theorem cls_app (k : List UInt8) (xs ys : List It) : cls k (xs ++ ys) = cls k xs ++ cls k ys := List.filter_append ..
theorem cls_cons (k : List UInt8) (x : It) (xs : List It) : cls k (x :: xs) = if H.l x.ix = k then x :: cls k xs else cls k xs := by
  unfold cls; by_cases h : H.l x.ix = k <;> simp [h]
theorem cls_none {k : List UInt8} {xs : List It} (h : ∀ x ∈ xs, ¬ H.l x.ix = k) : cls k xs = [] := by
  unfold cls; rw [List.filter_eq_nil_iff]; intro x hx; simp [h x hx]
theorem mem_cls {k : List UInt8} {xs : List It} {x : It} : x ∈ cls k xs ↔ x ∈ xs ∧ H.l x.ix = k := by unfold cls; simp
def Rea (xs ys : List It) : Prop := ∀ k, cls k ys = cls k xs
theorem Rea.refl (xs : List It) : Rea xs xs := fun _ => rfl
theorem Rea.trans {xs ys zs : List It} (h : Rea xs ys) (k : Rea ys zs) : Rea xs zs := fun q => (k q).trans (h q)
theorem Rea.app {a b c d : List It} (h : Rea a b) (k : Rea c d) : Rea (a ++ c) (b ++ d) := fun q => by rw [cls_app, cls_app, h q, k q]
theorem Rea.mem {xs ys : List It} (h : Rea xs ys) {x : It} : x ∈ ys ↔ x ∈ xs := by
  have := h (H.l x.ix)
  constructor
  · intro hx
    have : x ∈ cls (H.l x.ix) ys := mem_cls.2 ⟨hx, rfl⟩
    rw [h] at this; exact (mem_cls.1 this).1
  · intro hx
    have : x ∈ cls (H.l x.ix) xs := mem_cls.2 ⟨hx, rfl⟩
    rw [← h] at this; exact (mem_cls.1 this).1
/-- Two blocks whose items are nowhere alike change places. -/
theorem Rea.swap {u v : List It} (h : ∀ x ∈ u, ∀ y ∈ v, ¬ H.l x.ix = H.l y.ix) : Rea (u ++ v) (v ++ u) := fun k => by
  rw [cls_app, cls_app]
  by_cases hu : ∃ x ∈ u, H.l x.ix = k
  · obtain ⟨x, hx, rfl⟩ := hu
    rw [cls_none (fun y hy e => h x hx y hy e.symm)]; simp
  · rw [cls_none (xs := u) (fun x hx e => hu ⟨x, hx, e⟩)]; simp
def Srt (xs : List It) : Prop := xs.Pairwise (fun x y => ltI y x = false)
def Str (xs : List It) : Prop := xs.Pairwise (fun x y => ltI x y = true)
theorem srt_app {xs ys : List It} : Srt (xs ++ ys) ↔ Srt xs ∧ Srt ys ∧ ∀ x ∈ xs, ∀ y ∈ ys, ltI y x = false := List.pairwise_append
theorem str_app {xs ys : List It} : Str (xs ++ ys) ↔ Str xs ∧ Str ys ∧ ∀ x ∈ xs, ∀ y ∈ ys, ltI x y = true := List.pairwise_append
theorem Str.filter {xs : List It} (h : Str xs) (p : It → Bool) : Str (xs.filter p) := List.Pairwise.filter p h
/-! A list in pieces. -/
theorem at_mid (a : List It) (x : It) (b : List It) : at_ (a ++ x :: b) a.length = x := by unfold at_; simp [List.getD]
theorem at_mid' {a : List It} {x : It} {b : List It} {n : Nat} (h : n = a.length) : at_ (a ++ x :: b) n = x := by subst h; exact at_mid a x b
theorem swI_mid (a : List It) (x : It) (b : List It) (y : It) (c : List It) {i j : Nat} (hi : i = a.length) (hj : j = a.length + 1 + b.length) : swI (a ++ x :: (b ++ y :: c)) i j = a ++ y :: (b ++ x :: c) := by
  subst hi; subst hj
  have h1 : at_ (a ++ x :: (b ++ y :: c)) a.length = x := at_mid _ _ _
  have h2 : at_ (a ++ x :: (b ++ y :: c)) (a.length + 1 + b.length) = y := by
    rw [show a ++ x :: (b ++ y :: c) = (a ++ x :: b) ++ y :: c by simp]
    exact at_mid' (by simp; omega)
  unfold swI
  rw [h1, h2, List.set_append_right _ _ (Nat.le_refl _), Nat.sub_self, List.set_cons_zero, List.set_append_right _ _ (by omega), show a.length + 1 + b.length - a.length = b.length + 1 by omega, List.set_cons_succ, List.set_append_right _ _ (Nat.le_refl _), Nat.sub_self, List.set_cons_zero]
theorem swI_next (a : List It) (x y : It) (c : List It) {i j : Nat} (hi : i = a.length) (hj : j = a.length + 1) : swI (a ++ x :: y :: c) i j = a ++ y :: x :: c := swI_mid a x [] y c hi (by simpa using hj)
theorem swI_comm (xs : List It) (i j : Nat) : swI xs i j = swI xs j i := by
  unfold swI
  by_cases h : i = j
  · subst h; rfl
  · exact List.set_comm _ _ h
/-! Insertion sort. -/
theorem insDown_spec (x : It) : ∀ (n : Nat) (p s q : List It), s.length = n → Srt s → ∃ w, insDown (p.length + n) (p ++ (s ++ x :: q)) p.length = p ++ (w ++ q) ∧ Srt w ∧ Rea (s ++ [x]) w ∧ w.length = n + 1
  | 0, p, s, q, hs, _ => by
    obtain rfl := List.eq_nil_of_length_eq_zero hs
    exact ⟨[x], by rw [insDown_stop (by omega)]; simp, by simp [Srt], Rea.refl _, rfl⟩
  | n + 1, p, s, q, hs, hso => by
    obtain ⟨s', y, rfl⟩ : ∃ s' y, s = s' ++ [y] := by
      rcases List.eq_nil_or_concat s with rfl | ⟨s', y, h⟩
      · simp at hs
      · exact ⟨s', y, by simpa using h⟩
    have hl : s'.length = n := by simpa using hs
    obtain ⟨h1, _, h2⟩ := srt_app.1 hso
    have e1 : p ++ (s' ++ [y] ++ x :: q) = (p ++ s') ++ y :: x :: q := by simp
    have a1 : at_ (p ++ (s' ++ [y] ++ x :: q)) (p.length + (n + 1)) = x := by
      rw [show p ++ (s' ++ [y] ++ x :: q) = (p ++ s' ++ [y]) ++ x :: q by simp]
      exact at_mid' (by simp; omega)
    have a2 : at_ (p ++ (s' ++ [y] ++ x :: q)) (p.length + (n + 1) - 1) = y := by
      rw [e1]; exact at_mid' (by simp; omega)
    by_cases hxy : ltI x y = true
    · rw [insDown_step (by omega) (by rw [a1, a2]; exact hxy), swI_comm, e1, swI_next (p ++ s') y x q (by simp; omega) (by simp; omega)]
      obtain ⟨w, k1, k2, k3, k4⟩ := insDown_spec x n p s' (y :: q) hl h1
      refine ⟨w ++ [y], ?_, ?_, ?_, by simp [k4]⟩
      · rw [show p.length + (n + 1) - 1 = p.length + n by omega, show p ++ s' ++ x :: y :: q = p ++ (s' ++ x :: (y :: q)) by simp, k1]; simp
      · refine srt_app.2 ⟨k2, by simp [Srt], fun z hz t ht => ?_⟩
        obtain rfl : t = y := by simpa using ht
        rcases List.mem_append.1 (k3.mem.1 hz) with hz | hz
        · exact h2 z hz t (by simp)
        · obtain rfl : z = x := by simpa using hz
          exact lt_asymm hxy
      · have : Rea (s' ++ [y] ++ [x]) (s' ++ [x] ++ [y]) := by
          rw [List.append_assoc, List.append_assoc]
          exact (Rea.refl s').app (Rea.swap (fun a ha b hb => by
            obtain rfl : a = y := by simpa using ha
            obtain rfl : b = x := by simpa using hb
            exact fun e => lt_ne hxy e.symm))
        exact this.trans (k3.app (Rea.refl _))
    · have hxy : ltI x y = false := by simpa using hxy
      refine ⟨s' ++ [y] ++ [x], ?_, ?_, Rea.refl _, by simp [hl]⟩
      · rw [insDown_stop (fun c => by rw [a1, a2, hxy] at c; cases c.2)]; simp
      · refine srt_app.2 ⟨hso, by simp [Srt], fun z hz t ht => ?_⟩
        obtain rfl : t = x := by simpa using ht
        rcases List.mem_append.1 hz with hz | hz
        · exact le_trans (h2 z hz y (by simp)) hxy
        · obtain rfl : z = y := by simpa using hz
          exact hxy
theorem insN_spec : ∀ (r p w q : List It), Srt w → ∃ w', insN r.length (p ++ (w ++ (r ++ q))) p.length (p.length + w.length) = p ++ (w' ++ q) ∧ Srt w' ∧ Rea (w ++ r) w' ∧ w'.length = w.length + r.length
  | [], p, w, q, hw => ⟨w, rfl, hw, by simpa using Rea.refl w, rfl⟩
  | x :: r, p, w, q, hw => by
    obtain ⟨w1, k1, k2, k3, k4⟩ := insDown_spec x w.length p w (r ++ q) rfl hw
    obtain ⟨w2, j1, j2, j3, j4⟩ := insN_spec r p w1 q k2
    refine ⟨w2, ?_, j2, ?_, by rw [j4, k4, List.length_cons]; omega⟩
    · show insN (r.length + 1) _ _ _ = _
      unfold insN
      rw [List.cons_append, k1, show p.length + w.length + 1 = p.length + w1.length by omega, j1]
    · rw [show w ++ x :: r = (w ++ [x]) ++ r by simp]
      exact (k3.app (Rea.refl r)).trans j3
theorem insS_spec (p u q : List It) {a b : Nat} (ha : a = p.length) (hb : b = p.length + u.length) : ∃ w, insS (p ++ (u ++ q)) a b = p ++ (w ++ q) ∧ Srt w ∧ Rea u w ∧ w.length = u.length := by
  subst ha; subst hb
  unfold insS
  cases u with
  | nil => exact ⟨[], by rw [show p.length + ([] : List It).length - (p.length + 1) = 0 by simp]; rfl, by simp [Srt], Rea.refl _, rfl⟩
  | cons x r =>
    obtain ⟨w, k1, k2, k3, k4⟩ := insN_spec r p [x] q (by simp [Srt])
    refine ⟨w, ?_, k2, k3, by rw [k4]; simp; omega⟩
    rw [show p.length + (x :: r).length - (p.length + 1) = r.length by simp; omega]
    exact k1
end Go.Proofs.Ythbcbfghfhecjaa
