/-
  Trees: the library's merging and its stable sort sort.
-/
import Derived.Test.YthbcbfghfhecjaaTo
namespace Go.Proofs.Ythbcbfghfhecjaa
set_option linter.unusedVariables false
set_option linter.unusedSimpArgs false
open Go.RowKit Pl

/-! The search by halves. -/
theorem bsP_spec {p : Nat → Bool} : ∀ (f i j : Nat), i ≤ j → j - i ≤ f → (∀ h h', i ≤ h → h ≤ h' → h' < j → p h' = true → p h = true) → (∀ h, i ≤ h → h < bsP p f i j → p h = true) ∧ (∀ h, bsP p f i j ≤ h → h < j → p h = false)
  | 0, i, j, hij, hf, _ => ⟨fun h h1 h2 => by simp only [bsP] at h2; omega, fun h h1 h2 => by simp only [bsP] at h1; omega⟩
  | f + 1, i, j, hij, hf, hm => by
    by_cases hlt : i < j
    · rw [bsP_step hlt hf, Nat.add_sub_cancel]
      by_cases hp : p ((i + j) / 2) = true
      · rw [if_pos hp]
        obtain ⟨h1, h2⟩ := bsP_spec (p := p) f ((i + j) / 2 + 1) j (by omega) (by omega) (fun h h' a b c => hm h h' (by omega) b c)
        refine ⟨fun h a b => ?_, h2⟩
        by_cases hc : (i + j) / 2 + 1 ≤ h
        · exact h1 h hc b
        · exact hm h ((i + j) / 2) a (by omega) (by omega) hp
      · rw [if_neg hp]
        obtain ⟨h1, h2⟩ := bsP_spec (p := p) f i ((i + j) / 2) (by omega) (by omega) (fun h h' a b c => hm h h' a b (by omega))
        refine ⟨h1, fun h a b => ?_⟩
        by_cases hc : h < (i + j) / 2
        · exact h2 h a hc
        · cases e : p h with
          | false => rfl
          | true => exact absurd (hm ((i + j) / 2) h (by omega) (by omega) b e) hp
    · rw [bsP_end hlt]
      exact ⟨fun h a b => by omega, fun h a b => by omega⟩
/-! Blocks change places. -/
theorem swR_spec : ∀ (x y a b c : List It) (i k l : Nat), x.length = y.length → k + i = a.length → l + i = a.length + x.length + b.length → swR x.length (a ++ (x ++ (b ++ (y ++ c)))) k l i = a ++ (y ++ (b ++ (x ++ c)))
  | [], y, a, b, c, i, k, l, h, _, _ => by
    obtain rfl := List.eq_nil_of_length_eq_zero (l := y) (by simpa using h.symm)
    rfl
  | u :: x, [], a, b, c, i, k, l, h, _, _ => by simp at h
  | u :: x, v :: y, a, b, c, i, k, l, h, hk, hl => by
    have e1 : a ++ (u :: x ++ (b ++ (v :: y ++ c))) = a ++ u :: ((x ++ b) ++ v :: (y ++ c)) := by simp
    show swR x.length (swI _ (k + i) (l + i)) k l (i + 1) = _
    rw [e1, swI_mid a u (x ++ b) v (y ++ c) hk (by rw [hl]; simp; omega)]
    have := swR_spec x y (a ++ [v]) (b ++ [u]) c (i + 1) k l (by simpa using h) (by simp; omega) (by simp at hl ⊢; omega)
    rw [show a ++ v :: ((x ++ b) ++ u :: (y ++ c)) = (a ++ [v]) ++ (x ++ ((b ++ [u]) ++ (y ++ c))) by simp, this]
    simp
theorem rotG_spec : ∀ (f : Nat) (u v p q : List It) (m : Nat), 0 < u.length → 0 < v.length → u.length + v.length ≤ f → m = p.length + u.length → rotG f (p ++ (u ++ (v ++ q))) m u.length v.length = p ++ (v ++ (u ++ q))
  | 0, u, v, p, q, m, h1, _, h3, _ => by omega
  | f + 1, u, v, p, q, m, h1, h2, h3, hm => by
    by_cases e : u.length = v.length
    · rw [rotG_eq (by omega) e]
      have := swR_spec u v p [] q 0 (m - u.length) m e (by omega) (by simp; omega)
      simpa using this
    · by_cases g : v.length < u.length
      · rw [rotG_gt (by omega) e g, Nat.add_sub_cancel]
        obtain ⟨u1, u2, rfl, hu1⟩ : ∃ u1 u2, u = u1 ++ u2 ∧ u1.length = v.length := ⟨u.take v.length, u.drop v.length, (List.take_append_drop _ _).symm, by rw [List.length_take]; omega⟩
        have hu2 : u2.length = (u1 ++ u2).length - v.length := by simp; omega
        have := swR_spec u1 v p u2 q 0 (m - (u1 ++ u2).length) m (by omega) (by omega) (by simp at hm ⊢; omega)
        rw [hu1] at this
        rw [show p ++ (u1 ++ u2 ++ (v ++ q)) = p ++ (u1 ++ (u2 ++ (v ++ q))) by simp, this, ← hu2]
        have ih := rotG_spec f u2 u1 (p ++ v) q m (by simp at g; omega) (by omega) (by simp at h3; omega) (by simp at hm ⊢; omega)
        rw [hu1] at ih
        rw [show p ++ (v ++ (u2 ++ (u1 ++ q))) = (p ++ v) ++ (u2 ++ (u1 ++ q)) by simp, ih]
        simp
      · rw [rotG_lt (by omega) e g, Nat.add_sub_cancel]
        obtain ⟨v1, v2, rfl, hv2⟩ : ∃ v1 v2, v = v1 ++ v2 ∧ v2.length = u.length := ⟨v.take (v.length - u.length), v.drop (v.length - u.length), (List.take_append_drop _ _).symm, by rw [List.length_drop]; omega⟩
        have hv1 : v1.length = (v1 ++ v2).length - u.length := by simp; omega
        have := swR_spec u v2 p v1 q 0 (m - u.length) (m + (v1 ++ v2).length - u.length) (by omega) (by omega) (by simp; omega)
        rw [show p ++ (u ++ (v1 ++ v2 ++ q)) = p ++ (u ++ (v1 ++ (v2 ++ q))) by simp, this, ← hv1]
        have ih := rotG_spec f v2 v1 p (u ++ q) m (by omega) (by simp at e g; omega) (by simp at h3; omega) (by omega)
        rw [hv2] at ih
        rw [ih]
        simp
theorem rotI_spec (p u v q : List It) {a m b : Nat} (hu : 0 < u.length) (hv : 0 < v.length) (ha : a = p.length) (hm : m = a + u.length) (hb : b = m + v.length) : rotI (p ++ (u ++ (v ++ q))) a m b = p ++ (v ++ (u ++ q)) := by
  subst ha; subst hm; subst hb
  unfold rotI
  have := rotG_spec (p.length + u.length + v.length - p.length) u v p q (p.length + u.length) hu hv (by omega) rfl
  rw [show p.length + u.length - p.length = u.length by omega, show p.length + u.length + v.length - (p.length + u.length) = v.length by omega]
  exact this
/-! One item among others. -/
theorem bubF_spec : ∀ (v p q : List It) (x : It) {k : Nat}, k = p.length → bubF v.length (p ++ x :: (v ++ q)) k = p ++ (v ++ x :: q)
  | [], p, q, x, k, _ => rfl
  | y :: v, p, q, x, k, hk => by
    show bubF v.length (swI _ k (k + 1)) (k + 1) = _
    rw [List.cons_append, swI_next p x y (v ++ q) hk (by omega), show p ++ y :: x :: (v ++ q) = (p ++ [y]) ++ x :: (v ++ q) by simp, bubF_spec v (p ++ [y]) q x (by simp; omega)]
    simp
theorem bubB_spec : ∀ (n : Nat) (u p q : List It) (y : It) {k : Nat}, u.length = n → k = p.length + n → bubB n (p ++ (u ++ y :: q)) k = p ++ y :: (u ++ q)
  | 0, u, p, q, y, k, hu, _ => by
    obtain rfl := List.eq_nil_of_length_eq_zero hu; rfl
  | n + 1, u, p, q, y, k, hu, hk => by
    obtain ⟨u', x, rfl⟩ : ∃ u' x, u = u' ++ [x] := by
      rcases List.eq_nil_or_concat u with rfl | ⟨s', y, h⟩
      · simp at hu
      · exact ⟨s', y, by simpa using h⟩
    have hl : u'.length = n := by simpa using hu
    show bubB n (swI _ k (k - 1)) (k - 1) = _
    rw [swI_comm, show p ++ (u' ++ [x] ++ y :: q) = (p ++ u') ++ x :: y :: q by simp, swI_next (p ++ u') x y q (by simp; omega) (by simp; omega), show (p ++ u') ++ y :: x :: q = p ++ (u' ++ y :: (x :: q)) by simp, bubB_spec n u' p (x :: q) y hl (by omega)]
    simp
/-! Places of a list in pieces. -/
theorem at_l {p u r : List It} {h : Nat} (h1 : p.length ≤ h) (h2 : h < p.length + u.length) : ∃ x, at_ (p ++ (u ++ r)) h = x ∧ u[h - p.length]? = some x := by
  have hi : h - p.length < u.length := by omega
  refine ⟨u[h - p.length], ?_, List.getElem?_eq_getElem hi⟩
  unfold at_
  rw [List.getD_eq_getElem?_getD, List.getElem?_append_right h1, List.getElem?_append_left hi, List.getElem?_eq_getElem hi]; rfl
theorem srt_get {u : List It} (hs : Srt u) {i j : Nat} {x y : It} (hi : u[i]? = some x) (hj : u[j]? = some y) (hij : i ≤ j) : ltI y x = false := by
  rcases Nat.lt_or_eq_of_le hij with h | h
  · obtain ⟨h1, e1⟩ := List.getElem?_eq_some_iff.1 hi
    obtain ⟨h2, e2⟩ := List.getElem?_eq_some_iff.1 hj
    have := List.pairwise_iff_getElem.1 hs i j h1 h2 h
    rw [e1, e2] at this; exact this
  · subst h; rw [hi] at hj; cases hj; exact lt_irrefl _
theorem at_le {p u r : List It} (hs : Srt u) {h h' : Nat} (h1 : p.length ≤ h) (h2 : h ≤ h') (h3 : h' < p.length + u.length) : ltI (at_ (p ++ (u ++ r)) h') (at_ (p ++ (u ++ r)) h) = false := by
  obtain ⟨x, e1, k1⟩ := at_l (p := p) (u := u) (r := r) h1 (by omega)
  obtain ⟨y, e2, k2⟩ := at_l (p := p) (u := u) (r := r) (h := h') (by omega) h3
  rw [e1, e2]; exact srt_get hs k1 k2 (by omega)
/-! Merging. -/
def Mrg (u v w : List It) : Prop := Srt w ∧ Rea (u ++ v) w ∧ w.length = u.length + v.length
theorem symA_spec (p v q : List It) (x : It) {a m b : Nat} (hv : Srt v) (ha : a = p.length) (hm : m = a + 1) (hb : b = m + v.length) : ∃ w, symA (p ++ ([x] ++ (v ++ q))) a m b = p ++ (w ++ q) ∧ Mrg [x] v w := by
  unfold symA
  let P := fun h => ltI (at_ (p ++ ([x] ++ (v ++ q))) h) (at_ (p ++ ([x] ++ (v ++ q))) a)
  have hax : at_ (p ++ ([x] ++ (v ++ q))) a = x := at_mid' (b := v ++ q) ha
  have e : p ++ ([x] ++ (v ++ q)) = (p ++ [x]) ++ (v ++ q) := by simp
  have hpl : (p ++ [x]).length = m := by simp; omega
  have hle := bsP_le (p := P) (b - m) m b (by omega)
  have hsp := bsP_spec (p := P) (b - m) m b (by omega) (Nat.le_refl _) (fun h h' h1 h2 h3 hp => by
    show ltI _ _ = true
    have := at_le (p := p ++ [x]) (r := q) hv (h := h) (h' := h') (by omega) h2 (by omega)
    rw [← e] at this
    exact le_lt this hp)
  show ∃ w, bubF (bsP P (b - m) m b - 1 - a) _ a = _ ∧ _
  generalize hi : bsP P (b - m) m b = i at hle hsp ⊢
  obtain ⟨v1, v2, rfl, hv1⟩ : ∃ v1 v2, v = v1 ++ v2 ∧ v1.length = i - m := ⟨v.take (i - m), v.drop (i - m), (List.take_append_drop _ _).symm, by rw [List.length_take]; omega⟩
  have l1 : ∀ y ∈ v1, ltI y x = true := fun y hy => by
    obtain ⟨j, hj, rfl⟩ := List.getElem_of_mem hy
    have := hsp.1 (m + j) (by omega) (by omega)
    obtain ⟨z, e1, k1⟩ := at_l (p := p ++ [x]) (u := v1 ++ v2) (r := q) (h := m + j) (by omega) (by simp; omega)
    rw [← e] at e1
    rw [show m + j - (p ++ [x]).length = j by omega, List.getElem?_append_left hj, List.getElem?_eq_getElem hj] at k1
    cases k1
    show ltI _ _ = true
    have h9 : ltI (at_ (p ++ ([x] ++ (v1 ++ v2 ++ q))) (m + j)) (at_ (p ++ ([x] ++ (v1 ++ v2 ++ q))) a) = true := this
    rwa [e1, hax] at h9
  have l2 : ∀ y ∈ v2, ltI y x = false := fun y hy => by
    obtain ⟨j, hj, rfl⟩ := List.getElem_of_mem hy
    have hlen : b = m + (v1.length + v2.length) := by rw [hb]; simp
    have := hsp.2 (i + j) (by omega) (by omega)
    obtain ⟨z, e1, k1⟩ := at_l (p := p ++ [x]) (u := v1 ++ v2) (r := q) (h := i + j) (by omega) (by simp; omega)
    rw [← e] at e1
    rw [List.getElem?_append_right (by omega), show i + j - (p ++ [x]).length - v1.length = j by omega, List.getElem?_eq_getElem hj] at k1
    cases k1
    have h9 : ltI (at_ (p ++ ([x] ++ (v1 ++ v2 ++ q))) (i + j)) (at_ (p ++ ([x] ++ (v1 ++ v2 ++ q))) a) = false := this
    rwa [e1, hax] at h9
  obtain ⟨s1, s2, s3⟩ := srt_app.1 hv
  refine ⟨v1 ++ x :: v2, ?_, ?_, ?_, by simp; omega⟩
  · have := bubF_spec v1 p (v2 ++ q) x (k := a) ha
    rw [hv1, show i - m = i - 1 - a by omega] at this
    rw [show p ++ ([x] ++ (v1 ++ v2 ++ q)) = p ++ x :: (v1 ++ (v2 ++ q)) by simp, this]; simp
  · refine srt_app.2 ⟨s1, List.pairwise_cons.2 ⟨l2, s2⟩, fun y hy z hz => ?_⟩
    rcases List.mem_cons.1 hz with rfl | hz
    · exact lt_asymm (l1 y hy)
    · exact s3 y hy z hz
  · rw [show [x] ++ (v1 ++ v2) = ([x] ++ v1) ++ v2 by simp, show v1 ++ x :: v2 = (v1 ++ [x]) ++ v2 by simp]
    exact (Rea.swap (fun a ha b hb => by
      obtain rfl : a = x := by simpa using ha
      exact fun e => lt_ne (l1 b hb) e.symm)).app (Rea.refl _)
theorem symB_spec (p u q : List It) (y : It) {a m b : Nat} (hu : Srt u) (ha : a = p.length) (hm : m = a + u.length) : ∃ w, symB (p ++ (u ++ ([y] ++ q))) a m b = p ++ (w ++ q) ∧ Mrg u [y] w := by
  unfold symB
  let P := fun h => !ltI (at_ (p ++ (u ++ ([y] ++ q))) m) (at_ (p ++ (u ++ ([y] ++ q))) h)
  have hay : at_ (p ++ (u ++ ([y] ++ q))) m = y := by
    rw [show p ++ (u ++ ([y] ++ q)) = (p ++ u) ++ y :: q by simp]; exact at_mid' (by simp; omega)
  have hle := bsP_le (p := P) (m - a) a m (by omega)
  have hsp := bsP_spec (p := P) (m - a) a m (by omega) (Nat.le_refl _) (fun h h' h1 h2 h3 hp => by
    have := at_le (p := p) (r := [y] ++ q) hu (h := h) (h' := h') (by omega) h2 (by omega)
    simp only [P, Bool.not_eq_true'] at hp ⊢
    exact le_trans this hp)
  show ∃ w, bubB (m - bsP P (m - a) a m) _ m = _ ∧ _
  generalize hi : bsP P (m - a) a m = i at hle hsp ⊢
  obtain ⟨u1, u2, rfl, hu1⟩ : ∃ u1 u2, u = u1 ++ u2 ∧ u1.length = i - a := ⟨u.take (i - a), u.drop (i - a), (List.take_append_drop _ _).symm, by rw [List.length_take]; omega⟩
  have hlen : m = a + (u1.length + u2.length) := by rw [hm]; simp
  have l1 : ∀ z ∈ u1, ltI y z = false := fun z hz => by
    obtain ⟨j, hj, rfl⟩ := List.getElem_of_mem hz
    have := hsp.1 (a + j) (by omega) (by omega)
    obtain ⟨z, e1, k1⟩ := at_l (p := p) (u := u1 ++ u2) (r := [y] ++ q) (h := a + j) (by omega) (by simp; omega)
    rw [show a + j - p.length = j by omega, List.getElem?_append_left hj, List.getElem?_eq_getElem hj] at k1
    cases k1
    simp only [P, Bool.not_eq_true', e1, hay] at this
    exact this
  have l2 : ∀ z ∈ u2, ltI y z = true := fun z hz => by
    obtain ⟨j, hj, rfl⟩ := List.getElem_of_mem hz
    have := hsp.2 (i + j) (by omega) (by omega)
    obtain ⟨z, e1, k1⟩ := at_l (p := p) (u := u1 ++ u2) (r := [y] ++ q) (h := i + j) (by omega) (by simp; omega)
    rw [List.getElem?_append_right (by omega), show i + j - p.length - u1.length = j by omega, List.getElem?_eq_getElem hj] at k1
    cases k1
    simp only [P, Bool.not_eq_false', e1, hay] at this
    exact this
  obtain ⟨s1, s2, s3⟩ := srt_app.1 hu
  refine ⟨u1 ++ y :: u2, ?_, ?_, ?_, by simp; omega⟩
  · have := bubB_spec (m - i) u2 (p ++ u1) q y (k := m) (by omega) (by simp; omega)
    rw [show p ++ (u1 ++ u2 ++ ([y] ++ q)) = (p ++ u1) ++ (u2 ++ y :: q) by simp, this]; simp
  · refine srt_app.2 ⟨s1, List.pairwise_cons.2 ⟨fun z hz => lt_asymm (l2 z hz), s2⟩, fun z hz t ht => ?_⟩
    rcases List.mem_cons.1 ht with rfl | ht
    · exact l1 z hz
    · exact s3 z hz t ht
  · rw [show u1 ++ u2 ++ [y] = u1 ++ (u2 ++ [y]) by simp, show u1 ++ y :: u2 = u1 ++ ([y] ++ u2) by simp]
    exact (Rea.refl _).app (Rea.swap (fun a ha b hb => by
      obtain rfl : b = y := by simpa using hb
      exact fun e => lt_ne (l2 a ha) e.symm))
end Go.Proofs.Ythbcbfghfhecjaa
