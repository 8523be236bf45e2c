/-
  The proof of an index proves what the tree says of it: plain words.
-/
import Derived.Test.YtejhgijjegnmnaaZFi
namespace Go.Proofs.Ytejhgijjegnmnaa
set_option linter.unusedVariables false
set_option linter.unusedSimpArgs false
open Go.RowKit Pl
/-- A way is climbed from its end. -/
def upH (ix : H) : Nat → List H → H → H
  | _, [], e => e
  | k, o :: r, e => sumH (stepT ix o (upH ix (k + 1) r e) k)
theorem txH_up {ix : H} {p : Pf} : ∀ m, m ≤ p.path.length → txH ix p m = upH ix (p.path.length - m) (p.path.drop (p.path.length - m)) (sumH (endT p))
  | 0, _ => by rw [Nat.sub_zero, List.drop_length]; rfl
  | m + 1, h => by
    have hj : p.path.length - 1 - m < p.path.length := by omega
    have e : p.path.length - (m + 1) = p.path.length - 1 - m := by omega
    rw [txH_step hj, txH_up m (by omega), e, List.drop_eq_getElem_cons hj, upH, show p.path.length - 1 - m + 1 = p.path.length - m by omega]
theorem txH_all (ix : H) (p : Pf) : txH ix p p.path.length = upH ix 0 p.path (sumH (endT p)) := by
  have := txH_up (ix := ix) (p := p) p.path.length (Nat.le_refl _)
  rwa [Nat.sub_self, List.drop_zero] at this
def endH : List It → H
  | [] => emptyH
  | x :: _ => leafH x
theorem mkG_up {ix : H} : ∀ (f k : Nat) (l : List It), okT f k l → upH ix k (mkG ix f k l).1 (endH (mkG ix f k l).2) = belowH (f + 1) k l
  | 0, k, l, h => by
    have h2 : l.length < 2 := h
    match l, h2 with
    | [], _ => rfl
    | [x], _ => rfl
  | f + 1, k, l, h => by
    by_cases h2 : l.length < 2
    · rw [mkG_end h2]
      match l, h2 with
      | [], _ => rfl
      | [x], _ => rfl
    · obtain ⟨g, eg, hk, hs, o1, o2⟩ := okT_two h h2
      obtain rfl : g = f := by omega
      rw [belowH_two h2]
      by_cases hb : bitI ix (k : Int) = 1
      · rw [mkG_one h2 hb]
        simp only [upH]
        rw [mkG_up g (k + 1) _ o2]
        unfold stepT
        rw [if_pos hb]; rfl
      · rw [mkG_zero h2 hb]
        simp only [upH]
        rw [mkG_up g (k + 1) _ o1]
        unfold stepT
        rw [if_neg hb]; rfl
/-- What a way's end holds: no more than one item, of those there, along the index; and the index's own, if it is there. -/
theorem mkG_mem {ix : H} : ∀ (f k : Nat) (l : List It), okT f k l → k + f ≤ 256 → (mkG ix f k l).2.length < 2 ∧ (mkG ix f k l).1.length ≤ f ∧ (∀ x ∈ (mkG ix f k l).2, x ∈ l ∧ ∀ j, k ≤ j → j < k + (mkG ix f k l).1.length → bitN x.ix j = bitN ix j) ∧ (∀ x ∈ l, x.ix = ix → x ∈ (mkG ix f k l).2)
  | 0, k, l, h, _ => ⟨h, Nat.le_refl _, fun x hx => ⟨hx, fun j h1 h2 => absurd (show j < k from h2) (by omega)⟩, fun x hx _ => hx⟩
  | f + 1, k, l, h, hk => by
    by_cases h2 : l.length < 2
    · rw [mkG_end h2]
      exact ⟨h2, Nat.zero_le _, fun x hx => ⟨hx, fun j h1 h2 => absurd (show j < k from h2) (by omega)⟩, fun x hx _ => hx⟩
    · obtain ⟨g, eg, hk', hs, o1, o2⟩ := okT_two h h2
      obtain rfl : g = f := by omega
      have hbn := bitI_nat ix hk'
      have hlt := bitN_lt ix k
      by_cases hb : bitI ix (k : Int) = 1
      · rw [mkG_one h2 hb]
        obtain ⟨q1, q2, q3, q4⟩ := mkG_mem (ix := ix) g (k + 1) _ o2 (by omega)
        refine ⟨q1, by simp only [List.length_cons]; omega, fun x hx => ?_, fun x hx he => q4 x (List.mem_filter.2 ⟨hx, ?_⟩) he⟩
        · obtain ⟨m1, m2⟩ := q3 x hx
          obtain ⟨m3, m4⟩ := List.mem_filter.1 m1
          refine ⟨m3, fun j h1 h2 => ?_⟩
          rcases Nat.lt_or_ge k j with h | h
          · exact m2 j h (by simp only [List.length_cons] at h2; omega)
          · obtain rfl : j = k := by omega
            have := bitN_lt x.ix j
            simp only [bit0, Bool.not_eq_true', beq_eq_false_iff_ne] at m4
            omega
        · subst he
          simp only [bit0, Bool.not_eq_true', beq_eq_false_iff_ne]; omega
      · rw [mkG_zero h2 hb]
        obtain ⟨q1, q2, q3, q4⟩ := mkG_mem (ix := ix) g (k + 1) _ o1 (by omega)
        refine ⟨q1, by simp only [List.length_cons]; omega, fun x hx => ?_, fun x hx he => q4 x (List.mem_filter.2 ⟨hx, ?_⟩) he⟩
        · obtain ⟨m1, m2⟩ := q3 x hx
          obtain ⟨m3, m4⟩ := List.mem_filter.1 m1
          refine ⟨m3, fun j h1 h2 => ?_⟩
          rcases Nat.lt_or_ge k j with h | h
          · exact m2 j h (by simp only [List.length_cons] at h2; omega)
          · obtain rfl : j = k := by omega
            simp only [bit0, beq_iff_eq] at m4
            omega
        · subst he
          simp only [bit0, beq_iff_eq]; omega
theorem sameB_of {ix jx : H} {n : Nat} (hn : n ≤ 256) (h : ∀ j, j < n → bitN jx j = bitN ix j) : sameB ix jx n = true := by
  unfold sameB
  rw [List.all_eq_true]
  intro j hj
  have hj := List.mem_range.1 hj
  rw [bitI_nat _ (by omega), bitI_nat _ (by omega), h j hj]
  simp
/-- What the proof of an index is. -/
theorem mkP_all {ix : H} {l : List It} (hs : Str l) : rightF ix (mkP ix l) = true ∧ txH ix (mkP ix l) (mkP ix l).path.length = belowH 257 0 l ∧ ((mkP ix l).en = 0 ↔ ∃ x ∈ l, x.ix = ix) ∧ (∀ x ∈ l, x.ix = ix → (mkP ix l).it = x) ∧ (mkP ix l).path.length ≤ 256 ∧ 0 ≤ (mkP ix l).en ∧ (mkP ix l).en ≤ 2 := by
  have hup := mkG_up (ix := ix) 256 0 l (okT_str hs)
  obtain ⟨q1, q2, q3, q4⟩ := mkG_mem (ix := ix) 256 0 l (okT_str hs) (Nat.le_refl _)
  have e1 : (mkG ix 256 0 l).1 = (mkG ix 256 0 l).1 := rfl
  generalize hp : (mkG ix 256 0 l).1 = path at *
  generalize hm : (mkG ix 256 0 l).2 = m at *
  match m, q1 with
  | [], _ =>
    rw [mkP_nil hp.symm hm.symm]
    refine ⟨?_, ?_, ?_, fun x hx he => absurd (q4 x hx he) (by simp), q2, by simp, by simp⟩
    · rw [rightF_nobody (by simp only; omega) rfl]; simp
    · rw [txH_all]; exact hup
    · exact ⟨fun h => by simp at h, fun ⟨x, hx, he⟩ => absurd (q4 x hx he) (by simp)⟩
  | [x], _ =>
    obtain ⟨hx, hbit⟩ := q3 x (by simp)
    by_cases he : H.l x.ix = H.l ix
    · rw [mkP_here hp.symm hm.symm he]
      refine ⟨?_, ?_, ?_, fun y hy e => (List.mem_singleton.1 (q4 y hy e)).symm, q2, by simp, by simp⟩
      · rw [rightF_here (by simp only; omega) rfl]; simpa using he
      · rw [txH_all]; exact hup
      · exact ⟨fun _ => ⟨x, hx, H.l_inj he⟩, fun _ => rfl⟩
    · rw [mkP_other hp.symm hm.symm he]
      refine ⟨?_, ?_, ?_, fun y hy e => (List.mem_singleton.1 (q4 y hy e)).symm, q2, by simp, by simp⟩
      · rw [rightF_other (by simp only; omega) rfl, sameB_of (by simp only; omega) (fun j hj => hbit j (Nat.zero_le _) (by simpa using hj))]
        simpa using he
      · rw [txH_all]; exact hup
      · refine ⟨fun h => by simp at h, fun ⟨y, hy, e⟩ => ?_⟩
        have := q4 y hy e
        simp only [List.mem_singleton] at this
        subst this; subst e
        exact absurd rfl he
/-- Whether an index is among items. -/
def thereB (ix : H) (l : List It) : Bool := l.any fun x => decide (H.l x.ix = H.l ix)
theorem thereB_iff {ix : H} {l : List It} : thereB ix l = true ↔ ∃ x ∈ l, x.ix = ix := by
  unfold thereB
  rw [List.any_eq_true]
  exact ⟨fun ⟨x, h, e⟩ => ⟨x, h, H.l_inj (of_decide_eq_true e)⟩, fun ⟨x, h, e⟩ => ⟨x, h, by rw [e]; simp⟩⟩
theorem there_set (ix : H) (l : List It) : (∃ x ∈ setR l [], x.ix = ix) ↔ ∃ x ∈ l, x.ix = ix := by
  have h := (setR_spec l []).2 (H.l ix)
  rw [List.append_nil] at h
  have key : ∀ m : List It, (∃ x ∈ m, x.ix = ix) ↔ cls (H.l ix) m ≠ [] := fun m => by
    constructor
    · rintro ⟨x, hx, rfl⟩ e
      have : x ∈ cls (H.l x.ix) m := List.mem_filter.2 ⟨hx, by simp⟩
      rw [e] at this; cases this
    · intro e
      cases hc : cls (H.l ix) m with
      | nil => exact absurd hc e
      | cons x r =>
        have : x ∈ cls (H.l ix) m := by rw [hc]; simp
        obtain ⟨h1, h2⟩ := List.mem_filter.1 this
        exact ⟨x, h1, H.l_inj (by simpa using h2)⟩
  rw [key, key, h]
  cases hc : cls (H.l ix) l with
  | nil => simp
  | cons x r =>
    simp only [List.reverse_cons, ne_eq, List.take_eq_nil_iff]
    simp
theorem check_made (ix : H) (l : List It) : checkV (rootH l) ix (mkP ix (setR l [])) = (if thereB ix l = true then ((mkP ix (setR l [])).it.vl, true, true) else (zeroH, false, true)) := by
  obtain ⟨h1, h2, h3, h4, _⟩ := mkP_all (ix := ix) (setR_str l [])
  have hr : H.l (txH ix (mkP ix (setR l [])) (mkP ix (setR l [])).path.length) = H.l (rootH l) := by rw [h2]; rfl
  by_cases e : thereB ix l = true
  · rw [if_pos e, checkV_here h1 hr (h3.2 ((there_set ix l).2 (thereB_iff.1 e)))]
  · rw [if_neg e, checkV_no h1 hr (fun h0 => e (thereB_iff.2 ((there_set ix l).1 (h3.1 h0))))]
theorem rightF_made (ix : H) (l : List It) : rightF ix (mkP ix (setR l [])) = true := (mkP_all (setR_str l [])).1
theorem mkP_short (ix : H) (l : List It) : (mkP ix (setR l [])).path.length ≤ 256 := (mkP_all (setR_str l [])).2.2.2.2.1
end Go.Proofs.Ytejhgijjegnmnaa

