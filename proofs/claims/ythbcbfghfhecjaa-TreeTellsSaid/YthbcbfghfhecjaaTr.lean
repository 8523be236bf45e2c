/-
  Trees: sets: the program's and the reference's are one; what stands in a strict order can be told apart by bits.
-/
import Derived.Test.YthbcbfghfhecjaaTq
namespace Go.Proofs.Ythbcbfghfhecjaa
set_option linter.unusedVariables false
set_option linter.unusedSimpArgs false
open Go.RowKit Pl

theorem alike_iff {x y : It} : alike x y = true ↔ H.l x.ix = H.l y.ix := by unfold alike; simp
theorem ltI_of_key {x y z : It} (h : H.l x.ix = H.l y.ix) : ltI x z = ltI y z := by unfold ltI; rw [h]
theorem ltI_of_key' {x y z : It} (h : H.l x.ix = H.l y.ix) : ltI z x = ltI z y := by unfold ltI; rw [h]
/-! The first of each run. -/
theorem ddp_spec : ∀ (r : List It) (p : It), Srt (p :: r) → Str (p :: ddp p r) ∧ ∀ k, cls k (p :: ddp p r) = (cls k (p :: r)).take 1
  | [], p, _ => ⟨by simp [ddp, Str], fun k => by
    show cls k [p] = (cls k [p]).take 1
    rw [cls_cons]; split <;> simp [cls]⟩
  | x :: r, p, hs => by
    have hpx : ltI x p = false := List.rel_of_pairwise_cons hs (by simp)
    obtain ⟨h1, h2⟩ := ddp_spec r x (List.Pairwise.of_cons hs)
    obtain ⟨h3, h4⟩ := List.pairwise_cons.1 h1
    unfold ddp
    by_cases ha : alike x p = true
    · rw [if_pos ha]
      have e := alike_iff.1 ha
      refine ⟨List.pairwise_cons.2 ⟨fun y hy => by rw [← ltI_of_key e]; exact h3 y hy, h4⟩, fun k => ?_⟩
      have hk := h2 k
      rw [cls_cons k p, cls_cons k p, cls_cons k x]
      rw [cls_cons k x, cls_cons k x] at hk
      by_cases hkp : H.l p.ix = k
      · rw [if_pos (by rw [e]; exact hkp), if_pos (by rw [e]; exact hkp)] at hk
        rw [if_pos hkp, if_pos hkp]
        simp at hk
        simp [hk]
      · rw [if_neg (by rw [e]; exact hkp), if_neg (by rw [e]; exact hkp)] at hk
        rw [if_neg hkp, if_neg hkp, if_neg (by rw [e]; exact hkp)]
        exact hk
    · rw [if_neg ha]
      have hlt : ltI p x = true := by
        cases q : ltI p x with
        | true => rfl
        | false => exact absurd (alike_iff.2 (lt_total hpx q)) ha
      refine ⟨List.pairwise_cons.2 ⟨fun y hy => ?_, h1⟩, fun k => ?_⟩
      · rcases List.mem_cons.1 hy with rfl | hy
        · exact hlt
        · exact lt_trans hlt (h3 y hy)
      · rw [cls_cons k p, cls_cons k p, h2 k]
        by_cases hkp : H.l p.ix = k
        · rw [if_pos hkp, if_pos hkp, ← h2 k, cls_none (fun y hy => ?_)]
          · simp
          · subst hkp
            rcases List.mem_cons.1 hy with rfl | hy
            · exact fun e => lt_ne hlt e.symm
            · exact fun e => lt_ne (lt_trans hlt (h3 y hy)) e.symm
        · rw [if_neg hkp, if_neg hkp]
theorem dd_spec (xs : List It) (h : Srt xs) : Str (dd xs) ∧ ∀ k, cls k (dd xs) = (cls k xs).take 1 := by
  cases xs with
  | nil => exact ⟨by simp [dd, Str], fun k => by simp [dd, cls]⟩
  | cons x r => exact ddp_spec r x h
/-- A strict order's list is told by its items. -/
theorem str_unique : ∀ {xs ys : List It}, Str xs → Str ys → (∀ k, cls k xs = cls k ys) → xs = ys
  | [], [], _, _, _ => rfl
  | [], y :: ys, _, _, h => by have := h (H.l y.ix); rw [cls_cons, if_pos rfl] at this; simp [cls] at this
  | x :: xs, [], _, _, h => by have := h (H.l x.ix); rw [cls_cons, if_pos rfl] at this; simp [cls] at this
  | x :: xs, y :: ys, hx, hy, h => by
    obtain ⟨h1, h2⟩ := List.pairwise_cons.1 hx
    obtain ⟨h3, h4⟩ := List.pairwise_cons.1 hy
    have mx : x ∈ y :: ys := (mem_cls.1 (show x ∈ cls (H.l x.ix) (y :: ys) by rw [← h]; exact mem_cls.2 ⟨by simp, rfl⟩)).1
    have my : y ∈ x :: xs := (mem_cls.1 (show y ∈ cls (H.l y.ix) (x :: xs) by rw [h]; exact mem_cls.2 ⟨by simp, rfl⟩)).1
    have e : x = y := by
      rcases List.mem_cons.1 mx with e | mx
      · exact e
      · rcases List.mem_cons.1 my with e | my
        · exact e.symm
        · have := lt_trans (h1 y my) (h3 x mx)
          rw [lt_irrefl] at this; cases this
    subst e
    refine congrArg (x :: ·) (str_unique h2 h4 fun k => ?_)
    have := h k
    rw [cls_cons, cls_cons] at this
    split at this
    · exact (List.cons.inj this).2
    · exact this
/-! The reference's Set. -/
theorem str_cls {xs : List It} (h : Str xs) (k : List UInt8) : (cls k xs).length ≤ 1 := by
  have hs : Str (cls k xs) := h.filter _
  match hc : cls k xs, hs with
  | [], _ => simp
  | [x], _ => simp
  | x :: y :: r, hs =>
    have hx : x ∈ cls k xs := by rw [hc]; simp
    have hy : y ∈ cls k xs := by rw [hc]; simp
    have := List.rel_of_pairwise_cons hs (show y ∈ y :: r by simp)
    exact absurd ((mem_cls.1 hx).2.trans (mem_cls.1 hy).2.symm) (lt_ne this)
theorem plc_split {out : List It} (x : It) (h : Str out) : ∃ a b, out = a ++ b ∧ plc x out = a.length ∧ (∀ y ∈ a, ltI y x = true) ∧ ∀ y ∈ b, ltI y x = false := by
  induction out with
  | nil => exact ⟨[], [], rfl, rfl, by simp, by simp⟩
  | cons z r ih =>
    obtain ⟨h1, h2⟩ := List.pairwise_cons.1 h
    unfold plc fst_
    by_cases hz : ltI z x = true
    · obtain ⟨a, b, rfl, k1, k2, k3⟩ := ih h2
      refine ⟨z :: a, b, rfl, ?_, ?_, k3⟩
      · rw [if_neg (by simp [hz])]; unfold plc at k1; rw [k1]; rfl
      · intro y hy
        rcases List.mem_cons.1 hy with rfl | hy
        · exact hz
        · exact k2 y hy
    · refine ⟨[], z :: r, rfl, by rw [if_pos (by simpa using hz)]; rfl, by simp, fun y hy => ?_⟩
      rcases List.mem_cons.1 hy with rfl | hy
      · simpa using hz
      · cases q : ltI y x with
        | false => rfl
        | true => exact absurd (lt_trans (h1 y hy) q) hz
theorem insR_spec {out : List It} (x : It) (h : Str out) : Str (insR out x) ∧ ∀ k, cls k (insR out x) = if H.l x.ix = k then [x] else cls k out := by
  obtain ⟨a, b, rfl, hp, ha, hb⟩ := plc_split x h
  obtain ⟨s1, s2, s3⟩ := str_app.1 h
  by_cases hc : plc x (a ++ b) < (a ++ b).length ∧ alike (at_ (a ++ b) (plc x (a ++ b))) x = true
  · have hb0 : b ≠ [] := fun e => by subst e; rw [hp] at hc; simp at hc
    obtain ⟨y, c, rfl⟩ : ∃ y c, b = y :: c := by cases b with | nil => exact absurd rfl hb0 | cons y c => exact ⟨y, c, rfl⟩
    rw [hp, at_mid] at hc
    have e := alike_iff.1 hc.2
    have hi : insR (a ++ y :: c) x = a ++ x :: c := by
      unfold insR
      rw [hp, at_mid, if_pos hc, List.set_append_right _ _ (Nat.le_refl _), Nat.sub_self, List.set_cons_zero]
    rw [hi]
    obtain ⟨s4, s5⟩ := List.pairwise_cons.1 s2
    refine ⟨str_app.2 ⟨s1, List.pairwise_cons.2 ⟨fun z hz => by rw [← ltI_of_key e]; exact s4 z hz, s5⟩, fun z hz t ht => ?_⟩, fun k => ?_⟩
    · rcases List.mem_cons.1 ht with rfl | ht
      · exact ha z hz
      · exact s3 z hz t (by simp [ht])
    · rw [cls_app, cls_cons, cls_app, cls_cons k y, e]
      by_cases hk : H.l x.ix = k
      · rw [if_pos hk, if_pos hk, cls_none (fun z hz q => lt_ne (ha z hz) (q.trans hk.symm)), cls_none (fun z hz q => lt_ne (s4 z hz) ((e.trans hk).trans q.symm))]
        simp
      · rw [if_neg hk, if_neg hk, if_neg hk]
  · have hi : insR (a ++ b) x = a ++ x :: b := by
      unfold insR
      rw [if_neg hc, hp, List.take_left, List.drop_left]; simp
    have hne : ∀ z ∈ b, ltI x z = true := fun z hz => by
      obtain ⟨y, c, rfl⟩ : ∃ y c, b = y :: c := by cases b with | nil => cases hz | cons y c => exact ⟨y, c, rfl⟩
      have hy : ltI x y = true := by
        cases q : ltI x y with
        | true => rfl
        | false =>
          refine absurd ⟨?_, ?_⟩ hc
          · rw [hp]; simp
          · rw [hp, at_mid]; exact alike_iff.2 (lt_total (hb y (by simp)) q)
      rcases List.mem_cons.1 hz with rfl | hz
      · exact hy
      · exact lt_trans hy ((List.pairwise_cons.1 s2).1 z hz)
    rw [hi]
    refine ⟨str_app.2 ⟨s1, List.pairwise_cons.2 ⟨hne, s2⟩, fun z hz t ht => ?_⟩, fun k => ?_⟩
    · rcases List.mem_cons.1 ht with rfl | ht
      · exact ha z hz
      · exact s3 z hz t ht
    · rw [cls_app, cls_cons, cls_app]
      by_cases hk : H.l x.ix = k
      · rw [if_pos hk, if_pos hk, cls_none (fun z hz q => lt_ne (ha z hz) (q.trans hk.symm)), cls_none (fun z hz q => lt_ne (hne z hz) (hk.trans q.symm))]
        simp
      · rw [if_neg hk, if_neg hk]
theorem fold_spec : ∀ (A out : List It), Str out → Str (A.foldl insR out) ∧ ∀ k, cls k (A.foldl insR out) = if cls k A = [] then cls k out else (cls k A).reverse.take 1
  | [], out, h => ⟨h, fun k => by simp [cls]⟩
  | x :: A, out, h => by
    obtain ⟨h1, h2⟩ := insR_spec x h
    obtain ⟨h3, h4⟩ := fold_spec A (insR out x) h1
    refine ⟨h3, fun k => ?_⟩
    show cls k (A.foldl insR (insR out x)) = _
    rw [h4 k, h2 k, cls_cons]
    by_cases hk : H.l x.ix = k
    · rw [if_pos hk, if_pos hk, if_neg (show ¬ x :: cls k A = [] by simp)]
      by_cases hA : cls k A = []
      · rw [if_pos hA, hA]; rfl
      · rw [if_neg hA, List.reverse_cons, List.take_append_of_le_length]
        have : 0 < (cls k A).length := List.length_pos_iff.2 hA
        simp; omega
    · rw [if_neg hk, if_neg hk]
theorem setR_spec (l m : List It) : Str (setR l m) ∧ ∀ k, cls k (setR l m) = (cls k (l ++ m)).reverse.take 1 := by
  obtain ⟨h1, h2⟩ := fold_spec (l ++ m) [] (by simp [Str])
  refine ⟨h1, fun k => ?_⟩
  show cls k ((l ++ m).foldl insR []) = _
  rw [h2 k]
  split
  · rename_i e; rw [e]; simp [cls]
  · rfl
theorem setA_eq (l m : List It) : setA l m = setR l m := by
  obtain ⟨r1, r2⟩ := setR_spec l m
  have hf : [l, m].flatten = l ++ m := by simp
  unfold setA
  rw [hf, rvI_eq]
  obtain ⟨s1, s2⟩ := stI_spec (l ++ m).reverse
  obtain ⟨d1, d2⟩ := dd_spec _ s1
  refine str_unique d1 r1 fun k => ?_
  rw [d2 k, s2 k, r2 k]
  unfold cls
  rw [List.filter_reverse]
theorem setR_str (l m : List It) : Str (setR l m) := (setR_spec l m).1
/-- A set of a set's items, each there and in whatever order, is that set. -/
theorem setR_of {A : List It} {x : List It} (hx : Str x) (h1 : ∀ y ∈ A, y ∈ x) (h2 : ∀ y ∈ x, y ∈ A) : A.foldl insR [] = x := by
  obtain ⟨k1, k2⟩ := fold_spec A [] (by simp [Str])
  refine str_unique k1 hx fun k => ?_
  rw [k2 k]
  have hl := str_cls hx k
  cases hA : cls k A with
  | nil =>
    rw [if_pos rfl]
    cases hc : cls k x with
    | nil => rfl
    | cons y r =>
      have hy := mem_cls.1 (show y ∈ cls k x by rw [hc]; simp)
      have := mem_cls.2 ⟨h2 y hy.1, hy.2⟩
      rw [hA] at this; cases this
  | cons z r =>
    rw [if_neg (by simp)]
    have hz := mem_cls.1 (show z ∈ cls k A by rw [hA]; simp)
    have hzx : z ∈ cls k x := mem_cls.2 ⟨h1 z hz.1, hz.2⟩
    obtain ⟨u, hu⟩ : ∃ u, cls k x = [u] := one_of (by have := List.length_pos_of_mem hzx; omega)
    have all : ∀ y ∈ cls k A, y = u := fun y hy => by
      have hy' := mem_cls.1 hy
      have : y ∈ cls k x := mem_cls.2 ⟨h1 y hy'.1, hy'.2⟩
      rw [hu] at this; simpa using this
    rw [hu, ← hA]
    have hne : (cls k A).reverse ≠ [] := by rw [hA]; simp
    cases hr : (cls k A).reverse with
    | nil => exact absurd hr hne
    | cons y t =>
      have : y ∈ cls k A := by rw [← List.mem_reverse, hr]; simp
      rw [all y this]; rfl
/-! Bits and order. -/
theorem byte_bits {A B : Nat} (hA : A < 256) (hB : B < 256) : ∀ r, r ≤ 8 → (∀ j, j < r → A / 2 ^ (7 - j) % 2 = B / 2 ^ (7 - j) % 2) → A / 2 ^ (8 - r) = B / 2 ^ (8 - r)
  | 0, _, _ => by rw [Nat.div_eq_of_lt hA, Nat.div_eq_of_lt hB]
  | r + 1, hr, h => by
    have ih := byte_bits hA hB r (by omega) (fun j hj => h j (by omega))
    have hb := h r (by omega)
    have e : 8 - r = (7 - r) + 1 := by omega
    rw [e, Nat.pow_succ, ← Nat.div_div_eq_div_mul, ← Nat.div_div_eq_div_mul] at ih
    rw [show 8 - (r + 1) = 7 - r by omega]
    omega
theorem byte_lt {A B : Nat} (hA : A < 256) (hB : B < 256) {r : Nat} (hr : r < 8) (h : ∀ j, j < r → A / 2 ^ (7 - j) % 2 = B / 2 ^ (7 - j) % 2) (h1 : A / 2 ^ (7 - r) % 2 = 1) (h0 : B / 2 ^ (7 - r) % 2 = 0) : B < A := by
  have ih := byte_bits hA hB r (by omega) h
  have e : 8 - r = (7 - r) + 1 := by omega
  rw [e, Nat.pow_succ, ← Nat.div_div_eq_div_mul, ← Nat.div_div_eq_div_mul] at ih
  rcases Nat.lt_or_ge B A with q | q
  · exact q
  · have := Nat.div_le_div_right (c := 2 ^ (7 - r)) q
    omega
theorem less_at : ∀ {a b : List UInt8} {n : Nat} {x y : UInt8}, a.take n = b.take n → a[n]? = some x → b[n]? = some y → x < y → Op.bytesLess a b = true
  | [], b, n, x, y, _, ha, _, _ => by simp at ha
  | u :: a, [], n, x, y, _, _, hb, _ => by simp at hb
  | u :: a, v :: b, 0, x, y, _, ha, hb, hxy => by
    simp at ha hb; subst ha; subst hb
    unfold Op.bytesLess
    have : u ≠ v := fun e => by subst e; exact absurd hxy (UInt8.lt_irrefl _)
    simp [this, hxy]
  | u :: a, v :: b, n + 1, x, y, h, ha, hb, hxy => by
    simp at h ha hb
    obtain ⟨rfl, h⟩ := h
    unfold Op.bytesLess
    simp [less_at h ha hb hxy]
theorem byteN_get (h : H) {q : Nat} (hq : q < 32) : ∃ x, (H.l h)[q]? = some x ∧ x.toNat = byteN h q := ⟨h ⟨q, hq⟩, H.l_get h ⟨q, hq⟩, by unfold byteN; rw [dif_pos hq]⟩
theorem bytes_eq {a b : H} : ∀ {n : Nat}, n ≤ 32 → (∀ j, j < 8 * n → bitN a j = bitN b j) → (H.l a).take n = (H.l b).take n
  | 0, _, _ => by simp
  | n + 1, hn, h => by
    have ih := bytes_eq (n := n) (by omega) (fun j hj => h j (by omega))
    obtain ⟨x, h1, h2⟩ := byteN_get a (q := n) (by omega)
    obtain ⟨y, h3, h4⟩ := byteN_get b (q := n) (by omega)
    have e : byteN a n = byteN b n := by
      have := byte_bits (byteN_lt a n) (byteN_lt b n) 8 (Nat.le_refl _) (fun j hj => by
        have := h (8 * n + j) (by omega)
        unfold bitN at this
        rwa [show (8 * n + j) / 8 = n by omega, show (8 * n + j) % 8 = j by omega] at this)
      simpa using this
    have exy : x = y := UInt8.toNat_inj.1 (by omega)
    rw [List.take_add_one, List.take_add_one, ih, h1, h3, exy]
theorem bits_less {a b : H} {k : Nat} (hk : k < 256) (h : ∀ j, j < k → bitN a j = bitN b j) (ha : bitN a k = 1) (hb : bitN b k = 0) : Op.bytesLess (H.l b) (H.l a) = true := by
  obtain ⟨x, h1, h2⟩ := byteN_get a (q := k / 8) (by omega)
  obtain ⟨y, h3, h4⟩ := byteN_get b (q := k / 8) (by omega)
  have hlt : byteN b (k / 8) < byteN a (k / 8) := byte_lt (byteN_lt _ _) (byteN_lt _ _) (r := k % 8) (by omega) (fun j hj => by
    have := h (8 * (k / 8) + j) (by omega)
    unfold bitN at this
    rwa [show (8 * (k / 8) + j) / 8 = k / 8 by omega, show (8 * (k / 8) + j) % 8 = j by omega] at this) ha hb
  refine less_at (n := k / 8) (bytes_eq (by omega) (fun j hj => (h j (by omega)).symm)) h3 h1 ?_
  rw [UInt8.lt_iff_toNat_lt]; omega
def agree (k : Nat) (l : List It) : Prop := ∀ x ∈ l, ∀ y ∈ l, ∀ j, j < k → bitN x.ix j = bitN y.ix j
theorem sided_of {k : Nat} (hk : k < 256) : ∀ {l : List It}, Str l → agree k l → sided (fun x => !bit0 k x) l
  | [], _, _ => trivial
  | x :: r, hs, ha => by
    obtain ⟨h1, h2⟩ := List.pairwise_cons.1 hs
    refine ⟨fun hx y hy => ?_, sided_of hk h2 (fun a b c d j hj => ha a (by simp [b]) c (by simp [d]) j hj)⟩
    have bx := bitN_lt x.ix k
    have by_ := bitN_lt y.ix k
    simp only [bit0, Bool.not_eq_true', beq_eq_false_iff_ne] at hx ⊢
    intro h0
    have := bits_less hk (ha x (by simp) y (by simp [hy])) (by omega) h0
    have q := lt_asymm (h1 y hy)
    unfold ltI at q
    rw [this] at q; cases q
theorem okT_of : ∀ (f k : Nat) (l : List It), k + f = 256 → Str l → agree k l → okT f k l
  | 0, k, l, hk, hs, ha => by
    show l.length < 2
    match l, hs with
    | [], _ => simp
    | [x], _ => simp
    | x :: y :: r, hs =>
      have h1 := List.rel_of_pairwise_cons hs (show y ∈ y :: r by simp)
      have := bytes_eq (a := x.ix) (b := y.ix) (n := 32) (Nat.le_refl _) (fun j hj => ha x (by simp) y (by simp) j (by omega))
      rw [List.take_of_length_le (by rw [H.l_len]; omega), List.take_of_length_le (by rw [H.l_len]; omega)] at this
      exact absurd this (lt_ne h1)
  | f + 1, k, l, hk, hs, ha => by
    refine .inr ⟨by omega, sided_of (by omega) hs ha, okT_of f (k + 1) _ (by omega) (hs.filter _) ?_, okT_of f (k + 1) _ (by omega) (hs.filter _) ?_⟩
    · intro x hx y hy j hj
      obtain ⟨x1, x2⟩ := List.mem_filter.1 hx
      obtain ⟨y1, y2⟩ := List.mem_filter.1 hy
      rcases Nat.lt_or_eq_of_le (Nat.le_of_lt_succ hj) with h | rfl
      · exact ha x x1 y y1 j h
      · simp only [bit0, beq_iff_eq] at x2 y2; omega
    · intro x hx y hy j hj
      obtain ⟨x1, x2⟩ := List.mem_filter.1 hx
      obtain ⟨y1, y2⟩ := List.mem_filter.1 hy
      rcases Nat.lt_or_eq_of_le (Nat.le_of_lt_succ hj) with h | rfl
      · exact ha x x1 y y1 j h
      · have b1 := bitN_lt x.ix j
        have b2 := bitN_lt y.ix j
        simp only [bit0, Bool.not_eq_true', beq_eq_false_iff_ne] at x2 y2; omega
theorem okT_str {l : List It} (h : Str l) : okT 256 0 l := okT_of 256 0 l rfl h (fun x _ y _ j hj => absurd hj (Nat.not_lt_zero j))
/-- A tree's root. -/
def rootH (l : List It) : H := belowH 257 0 (setR l [])
theorem setR_len (l m : List It) : (setR l m).length ≤ l.length + m.length := by
  have : ∀ (A out : List It), (A.foldl insR out).length ≤ out.length + A.length := fun A => by
    induction A with
    | nil => intro out; simp
    | cons x A ih => intro out; have h1 := ih (insR out x); have h2 := insR_len out x; simp at h1 ⊢; omega
  have := this (l ++ m) []
  simpa [setR] using this
end Go.Proofs.Ythbcbfghfhecjaa
