/-
  A logic of walks: any order of a region comes to the same.
-/
import Derived.Test.YthbcbfghfhecjaaPk
namespace Go.Proofs.Ythbcbfghfhecjaa.Pl
set_option linter.unusedVariables false
set_option linter.unusedSimpArgs false
open Go.RowKit

theorem mL_append (S : Nat → Bool) : ∀ (l m : List Ro) (k : Nat) (L : Lo), mL S (l ++ m) k L = mL S m (k + l.length) (mL S l k L)
  | [], m, k, L => rfl
  | x :: r, m, k, L => by
    show mL S (r ++ m) (k + 1) _ = mL S m (k + (x :: r).length) (mL S r (k + 1) _)
    rw [mL_append S r m (k + 1), List.length_cons, show k + 1 + r.length = k + (r.length + 1) by omega]
theorem mG_append (S : Nat → Bool) : ∀ (l m : List Ro) (k : Nat) (L : Ga), mG S (l ++ m) k L = mG S m (k + l.length) (mG S l k L)
  | [], m, k, L => rfl
  | x :: r, m, k, L => by
    show mG S (r ++ m) (k + 1) _ = mG S m (k + (x :: r).length) (mG S r (k + 1) _)
    rw [mG_append S r m (k + 1), List.length_cons, show k + 1 + r.length = k + (r.length + 1) by omega]
theorem mL_congr {S S' : Nat → Bool} : ∀ (l : List Ro) (k : Nat) (L : Lo), (∀ j, k ≤ j → j < k + l.length → S j = S' j) → mL S l k L = mL S' l k L
  | [], k, L, _ => rfl
  | x :: r, k, L, h => by
    unfold mL
    rw [h k (Nat.le_refl _) (by simp), mL_congr r (k + 1) _ (fun j h1 h2 => h j (by omega) (by simp at h2 ⊢; omega))]
theorem mG_congr {S S' : Nat → Bool} : ∀ (l : List Ro) (k : Nat) (L : Ga), (∀ j, k ≤ j → j < k + l.length → S j = S' j) → mG S l k L = mG S' l k L
  | [], k, L, _ => rfl
  | x :: r, k, L, h => by
    unfold mG
    rw [h k (Nat.le_refl _) (by simp), mG_congr r (k + 1) _ (fun j h1 h2 => h j (by omega) (by simp at h2 ⊢; omega))]
theorem mL_past {S : Nat → Bool} (E : Eff) : ∀ (l : List Ro) (k : Nat) (L : Lo), (∀ j y, l[j]? = some y → S (k + j) = true → ∀ t, E.wT t → ¬ y.E.wT t) → mL S l k (E.L L) = E.L (mL S l k L)
  | [], k, L, _ => rfl
  | x :: r, k, L, h => by
    unfold mL
    have h' : ∀ j y, r[j]? = some y → S (k + 1 + j) = true → ∀ t, E.wT t → ¬ y.E.wT t := fun j y hy hs => h (j + 1) y (by simpa using hy) (by rw [show k + (j + 1) = k + 1 + j by omega]; exact hs)
    cases hs : S k with
    | false => exact mL_past E r (k + 1) L h'
    | true =>
      rw [cond_true, cond_true, ← effL_comm E x.E L (h 0 x (by simp) hs)]
      exact mL_past E r (k + 1) _ h'
theorem mG_past {S : Nat → Bool} (E : Eff) : ∀ (l : List Ro) (k : Nat) (L : Ga), (∀ j y, l[j]? = some y → S (k + j) = true → ∀ t, E.wG t → ¬ y.E.wG t) → mG S l k (E.G L) = E.G (mG S l k L)
  | [], k, L, _ => rfl
  | x :: r, k, L, h => by
    unfold mG
    have h' : ∀ j y, r[j]? = some y → S (k + 1 + j) = true → ∀ t, E.wG t → ¬ y.E.wG t := fun j y hy hs => h (j + 1) y (by simpa using hy) (by rw [show k + (j + 1) = k + 1 + j by omega]; exact hs)
    cases hs : S k with
    | false => exact mG_past E r (k + 1) L h'
    | true =>
      rw [cond_true, cond_true, ← effG_comm E x.E L (h 0 x (by simp) hs)]
      exact mG_past E r (k + 1) _ h'
theorem agreeL {S : Nat → Bool} {t : Nat} : ∀ (l : List Ro) (k m : Nat) (L1 L2 : Lo), L1 t = L2 t → (∀ j y, l[j]? = some y → y.E.wT t → (j < m → S (k + j) = true) ∧ (m ≤ j → S (k + j) = false)) → mL S l k L1 t = stL (l.take m) L2 t
  | [], k, m, L1, L2, h, _ => by simpa [mL, stL] using h
  | x :: r, k, 0, L1, L2, h, hc => by
    unfold mL
    have h' := agreeL (t := t) r (k + 1) 0 (bif S k then x.E.L L1 else L1) L2 (by
      cases hs : S k with
      | false => exact h
      | true => rw [cond_true, effL_off _ _ _ (fun hw => by have := (hc 0 x (by simp) hw).2 (Nat.le_refl _); rw [Nat.add_zero, hs] at this; cases this)]; exact h)
      (fun j y hy hw => ⟨fun hlt => by omega, fun _ => by have := (hc (j + 1) y (by simpa using hy) hw).2 (by omega); rwa [show k + (j + 1) = k + 1 + j by omega] at this⟩)
    simpa [stL] using h'
  | x :: r, k, m + 1, L1, L2, h, hc => by
    unfold mL
    rw [List.take_succ_cons]; unfold stL
    refine agreeL (t := t) r (k + 1) m _ _ ?_ (fun j y hy hw => ⟨fun hlt => by have := (hc (j + 1) y (by simpa using hy) hw).1 (by omega); rwa [show k + (j + 1) = k + 1 + j by omega] at this, fun hle => by have := (hc (j + 1) y (by simpa using hy) hw).2 (by omega); rwa [show k + (j + 1) = k + 1 + j by omega] at this⟩)
    cases hs : S k with
    | true => exact effL_at _ _ _ _ h
    | false => rw [cond_false, effL_off _ _ _ (fun hw => by have := (hc 0 x (by simp) hw).1 (by omega); rw [Nat.add_zero, hs] at this; cases this)]; exact h
theorem agreeG {S : Nat → Bool} {t : Nat} : ∀ (l : List Ro) (k m : Nat) (L1 L2 : Ga), L1 t = L2 t → (∀ j y, l[j]? = some y → y.E.wG t → (j < m → S (k + j) = true) ∧ (m ≤ j → S (k + j) = false)) → mG S l k L1 t = stG (l.take m) L2 t
  | [], k, m, L1, L2, h, _ => by simpa [mG, stG] using h
  | x :: r, k, 0, L1, L2, h, hc => by
    unfold mG
    have h' := agreeG (t := t) r (k + 1) 0 (bif S k then x.E.G L1 else L1) L2 (by
      cases hs : S k with
      | false => exact h
      | true => rw [cond_true, show x.E.G L1 t = L1 t from foldG_off _ _ _ (fun hw => by have := (hc 0 x (by simp) hw).2 (Nat.le_refl _); rw [Nat.add_zero, hs] at this; cases this)]; exact h)
      (fun j y hy hw => ⟨fun hlt => by omega, fun _ => by have := (hc (j + 1) y (by simpa using hy) hw).2 (by omega); rwa [show k + (j + 1) = k + 1 + j by omega] at this⟩)
    simpa [stG] using h'
  | x :: r, k, m + 1, L1, L2, h, hc => by
    unfold mG
    rw [List.take_succ_cons]; unfold stG
    refine agreeG (t := t) r (k + 1) m _ _ ?_ (fun j y hy hw => ⟨fun hlt => by have := (hc (j + 1) y (by simpa using hy) hw).1 (by omega); rwa [show k + (j + 1) = k + 1 + j by omega] at this, fun hle => by have := (hc (j + 1) y (by simpa using hy) hw).2 (by omega); rwa [show k + (j + 1) = k + 1 + j by omega] at this⟩)
    cases hs : S k with
    | true => exact foldG_at _ _ _ _ h
    | false => rw [cond_false, show x.E.G L2 t = L2 t from foldG_off _ _ _ (fun hw => by have := (hc 0 x (by simp) hw).1 (by omega); rw [Nat.add_zero, hs] at this; cases this)]; exact h
theorem mL_all {S : Nat → Bool} : ∀ (l : List Ro) (k : Nat) (L : Lo), (∀ j, k ≤ j → j < k + l.length → S j = true) → mL S l k L = stL l L
  | [], k, L, _ => rfl
  | x :: r, k, L, h => by
    unfold mL stL
    rw [h k (Nat.le_refl _) (by simp), cond_true]
    exact mL_all r (k + 1) _ (fun j h1 h2 => h j (by omega) (by simp at h2 ⊢; omega))
theorem mG_all {S : Nat → Bool} : ∀ (l : List Ro) (k : Nat) (L : Ga), (∀ j, k ≤ j → j < k + l.length → S j = true) → mG S l k L = stG l L
  | [], k, L, _ => rfl
  | x :: r, k, L, h => by
    unfold mG stG
    rw [h k (Nat.le_refl _) (by simp), cond_true]
    exact mG_all r (k + 1) _ (fun j h1 h2 => h j (by omega) (by simp at h2 ⊢; omega))
theorem mL_none : ∀ (l : List Ro) (k : Nat) (L : Lo), mL (fun _ => false) l k L = L
  | [], k, L => rfl
  | x :: r, k, L => by unfold mL; exact mL_none r _ L
theorem mG_none : ∀ (l : List Ro) (k : Nat) (L : Ga), mG (fun _ => false) l k L = L
  | [], k, L => rfl
  | x :: r, k, L => by unfold mG; exact mG_none r _ L
/-- How many are still to come. -/
def cnt : List Bool → Nat
  | [] => 0
  | b :: r => (bif b then 0 else 1) + cnt r
theorem cnt_set : ∀ (l : List Bool) (i : Nat), l[i]? = some false → cnt (l.set i true) + 1 = cnt l
  | [], i, h => by simp at h
  | b :: r, 0, h => by simp at h; subst h; simp [cnt]; omega
  | b :: r, i + 1, h => by
    have := cnt_set r i (by simpa using h)
    simp only [List.set_cons_succ, cnt]; omega
theorem cnt_zero : ∀ (l : List Bool) (i : Nat) (b : Bool), cnt l = 0 → l[i]? = some b → b = true
  | [], i, b, _, h => by simp at h
  | c :: r, 0, b, h0, h => by
    simp at h; subst h
    cases c with
    | true => rfl
    | false => simp [cnt] at h0
  | c :: r, i + 1, b, h0, h => cnt_zero r i b (by simp only [cnt] at h0; omega) (by simpa using h)
section
variable {P : Program} {C : Cx}
theorem obs_at {ops : Array Oper} : ∀ {rs : List Ro} {L : Lo} {Γ : Ga} {i : Nat} {x : Ro}, Obs P C ops rs L Γ → rs[i]? = some x → Ob P C ops x (stL (rs.take i) L) (stG (rs.take i) Γ)
  | [], L, Γ, i, x, _, h => by simp at h
  | y :: r, L, Γ, 0, x, h, hi => by simp at hi; subst hi; exact h.1
  | y :: r, L, Γ, i + 1, x, h, hi => by
    rw [List.take_succ_cons]; unfold stL stG
    exact obs_at h.2 (by simpa using hi)
theorem draw_sound {rs : List Ro} {L0 : Lo} {Γ0 : Ga} {ops : Array Oper} (hops : ops = (rs.map (·.o)).toArray) (hok : drawOK rs = true) (hobs : Obs P C ops rs L0 Γ0) {Q : Exit → Act → World → Prop} (hend : TE C (Q .normal) (stL rs L0) (stG rs Γ0)) :
    ∀ (fuel : Nat) (listed : Array Bool) (a : Act) (w : World), listed.size = rs.length → cnt listed.toList ≤ fuel →
      (∀ j o, (rs.map (·.o))[j]? = some o → listed.getD j false = true → ∀ e ∈ o.after, bnds e = true → listed.getD e.on false = true) →
      Reps C (mL (fun i => listed.getD i false) rs 0 L0) (mG (fun i => listed.getD i false) rs 0 Γ0) a w → wpAny P .any ops Q fuel listed a w := by
  have hok' := hok
  unfold drawOK at hok
  simp only [Bool.and_eq_true] at hok
  obtain ⟨⟨⟨hback, hdst⟩, hsel⟩, hpairs⟩ := hok
  rw [← hops] at hpairs
  have hback' : ∀ j x, rs[j]? = some x → ∀ e ∈ x.o.after, bnds e = true → e.on < j := by
    intro j x hx e he hb
    have h1 := List.all_eq_true.1 hback (x, j) (by rw [List.mem_iff_getElem?]; exact ⟨j, by rw [List.getElem?_zipIdx, hx]; simp⟩)
    have h2 := Array.all_eq_true_iff_forall_mem.1 h1 e he
    simpa [hb] using h2
  have hget : ∀ j, ops[j]? = (rs[j]?).map fun x : Ro => x.o := fun j => by rw [hops, List.getElem?_toArray, List.getElem?_map]
  have hall : ∀ listed : Array Bool, listed.size = rs.length → Region.ready .any ops listed = [] → ∀ j, j < rs.length → listed.getD j false = true := by
    intro listed hsz hr j
    induction j using Nat.strongRecOn with
    | _ j ih =>
      intro hj
      cases hl : listed.getD j false with
      | true => rfl
      | false =>
        exfalso
        have hx : rs[j]? = some rs[j] := List.getElem?_eq_getElem hj
        have : j ∈ Region.ready .any ops listed := by
          rw [mem_ready]
          refine ⟨?_, rs[j].o, by rw [hget, hx]; rfl, fun e he hb => ih e.on (hback' j _ hx e he hb) (by have := hback' j _ hx e he hb; omega)⟩
          have hjl : j < listed.size := by rw [hsz]; exact hj
          rw [Array.getD_eq_getD_getElem?, Array.getElem?_eq_getElem hjl] at hl ⊢
          simpa using hl
        rw [hr] at this; cases this
  have hdone : ∀ (listed : Array Bool) a w, listed.size = rs.length → Region.ready .any ops listed = [] → Reps C (mL (fun i => listed.getD i false) rs 0 L0) (mG (fun i => listed.getD i false) rs 0 Γ0) a w → Q .normal a w := by
    intro listed a w hsz hr hreps
    have h1 := hall listed hsz hr
    rw [mL_all rs 0 L0 (fun j _ hj => h1 j (by omega)), mG_all rs 0 Γ0 (fun j _ hj => h1 j (by omega))] at hreps
    exact hend a w hreps
  intro fuel
  induction fuel with
  | zero =>
    intro listed a w hsz hc hcl hreps
    have hr : Region.ready .any ops listed = [] := by
      rw [List.eq_nil_iff_forall_not_mem]
      intro j hj
      obtain ⟨h0, o, ho, _⟩ := mem_ready.1 hj
      have hjl : j < listed.size := by
        rw [hget] at ho
        rw [hsz]
        cases hx : rs[j]? with
        | none => simp [hx] at ho
        | some x => exact (List.getElem?_eq_some_iff.1 hx).1
      have := cnt_zero listed.toList j listed[j] (by omega) (by simp [hjl])
      rw [Array.getD_eq_getD_getElem?, Array.getElem?_eq_getElem hjl] at h0
      simp [this] at h0
    exact ⟨hr, hdone listed a w hsz hr hreps⟩
  | succ fuel ih =>
    intro listed a w hsz hc hcl hreps
    refine ⟨fun hr => hdone listed a w hsz hr hreps, fun i hi => ?_⟩
    obtain ⟨h0, o, ho, hpre⟩ := mem_ready.1 hi
    have hx : ∃ x, rs[i]? = some x ∧ x.o = o := by
      rw [hget] at ho
      cases hx : rs[i]? with
      | none => simp [hx] at ho
      | some x => exact ⟨x, rfl, by simpa [hx] using ho⟩
    obtain ⟨x, hx, rfl⟩ := hx
    have hil : i < rs.length := (List.getElem?_eq_some_iff.1 hx).1
    have his : i < listed.size := by rw [hsz]; exact hil
    have hS0 : listed.getD i false = false := by
      rw [Array.getD_eq_getD_getElem?, Array.getElem?_eq_getElem his] at h0 ⊢
      simpa using h0
    let S : Nat → Bool := fun j => listed.getD j false
    -- the listed set with i, and what it is closed under
    have hclosed : ∀ j, S j = true → ∀ k, ((bmGo (rs.map (·.o)) []).getD j 0).testBit k = true → S k = true := fun j hj k hk =>
      bm_closed (S := fun j => S j = true) (rs.map (·.o)) [] [] rfl (by rw [List.nil_append]; exact hcl) (fun j _ k hk => by simp at hk) j hj k hk
    let listed' := listed.setIfInBounds i true
    have hS' : ∀ j, listed'.getD j false = if j = i then true else S j := by
      intro j
      by_cases e : j = i
      · subst e; simp [listed', his]
      · rw [if_neg e]; simp only [listed', S, Array.getD_eq_getD_getElem?, Array.getElem?_setIfInBounds_ne (Ne.symm e)]
    have hcl' : ∀ j o, (rs.map (·.o))[j]? = some o → listed'.getD j false = true → ∀ e ∈ o.after, bnds e = true → listed'.getD e.on false = true := by
      intro j o hjo hj e he hb
      rw [hS']
      split
      · rfl
      · by_cases e' : j = i
        · subst e'
          have : o = x.o := by simp [hx] at hjo; exact hjo.symm
          subst this
          exact hpre e he hb
        · rw [hS', if_neg e'] at hj
          exact hcl j o hjo hj e he hb
    have hclosed' : ∀ j, listed'.getD j false = true → ∀ k, ((bmGo (rs.map (·.o)) []).getD j 0).testBit k = true → listed'.getD k false = true := fun j hj k hk =>
      bm_closed (S := fun j => listed'.getD j false = true) (rs.map (·.o)) [] [] rfl (by rw [List.nil_append]; exact hcl') (fun j _ k hk => by simp at hk) j hj k hk
    -- which rows clash with i
    have hbefore : ∀ j y, rs[j]? = some y → j < i → clash ops y x = true → S j = true := fun j y hy hlt hc => by
      have h1 := okPairs_spec hpairs rfl j i y x hlt (Nat.zero_le _) (by simpa using hy) (by simpa using hx) hc
      have h2 := hclosed' i (by rw [hS', if_pos rfl]) j h1
      rw [hS', if_neg (by omega)] at h2; exact h2
    have hafter : ∀ j y, rs[j]? = some y → i < j → clash ops x y = true → S j = false := fun j y hy hlt hc => by
      have h1 := okPairs_spec hpairs rfl i j x y hlt (Nat.zero_le _) (by simpa using hx) (by simpa using hy) hc
      cases hs : S j with
      | false => rfl
      | true => have := hclosed j hs i h1; rw [show S i = false from hS0] at this; cases this
    -- what i looks at is what it looks at in the listed order
    have hrT : ∀ t ∈ x.rT ops, mL S rs 0 L0 t = stL (rs.take i) L0 t := fun t ht => by
      refine agreeL rs 0 i L0 L0 rfl fun j y hy ⟨X, hw⟩ => ⟨fun hlt => ?_, fun hle => ?_⟩
      · rw [Nat.zero_add]
        refine hbefore j y hy hlt ?_
        unfold clash
        rw [hw]
        simp only [mem_iff.2 ht, Bool.true_or]
      · rw [Nat.zero_add]
        by_cases e : j = i
        · subst e; exact hS0
        · refine hafter j y hy (by omega) ?_
          unfold clash
          rw [hw]
          simp only [mem_iff.2 ht, Bool.or_true, Bool.true_or]
    have hG : ∀ g, (mem x.G g || mem x.ids g) = true → mG S rs 0 Γ0 g = stG (rs.take i) Γ0 g := fun g hg => by
      refine agreeG rs 0 i Γ0 Γ0 rfl fun j y hy hw => ⟨fun hlt => ?_, fun hle => ?_⟩
      · rw [Nat.zero_add]
        refine hbefore j y hy hlt ?_
        unfold clash
        have : y.ids.any (fun g => mem x.G g || mem x.ids g) = true := List.any_eq_true.2 ⟨g, hw, hg⟩
        simp only [this, Bool.or_true, Bool.true_or]
      · rw [Nat.zero_add]
        by_cases e : j = i
        · subst e; exact hS0
        · refine hafter j y hy (by omega) ?_
          unfold clash
          have : y.ids.any (fun g => mem x.G g || mem x.ids g) = true := List.any_eq_true.2 ⟨g, hw, hg⟩
          simp only [this, Bool.or_true]
    -- the state behind i
    have hxe : rs[i] = x := by have := List.getElem?_eq_getElem hil; rw [hx] at this; injection this with h; exact h.symm
    have hsplit : rs = rs.take i ++ x :: rs.drop (i + 1) := by rw [← hxe, List.getElem_cons_drop hil, List.take_append_drop]
    have hlt : (rs.take i).length = i := by rw [List.length_take]; omega
    have hdropget : ∀ j y, (rs.drop (i + 1))[j]? = some y → rs[i + 1 + j]? = some y := fun j y hy => by rw [List.getElem?_drop] at hy; exact hy
    have hstepL : mL (fun j => listed'.getD j false) rs 0 L0 = x.E.L (mL S rs 0 L0) := by
      conv => lhs; rw [hsplit]
      conv => rhs; rw [hsplit]
      rw [mL_append, mL_append, hlt, Nat.zero_add]
      unfold mL
      rw [show listed'.getD i false = true from by rw [hS', if_pos rfl], show S i = false from hS0, cond_true, cond_false]
      rw [mL_congr (S' := S) (rs.take i) 0 L0 (fun j _ hj => by show listed'.getD j false = _; rw [hS', if_neg (by omega)])]
      rw [mL_congr (S' := S) (rs.drop (i + 1)) (i + 1) _ (fun j hj _ => by show listed'.getD j false = _; rw [hS', if_neg (by omega)])]
      refine mL_past x.E _ _ _ fun j y hy hs t ⟨X, h1⟩ ⟨Y, h2⟩ => ?_
      have := hafter (i + 1 + j) y (hdropget j y hy) (by omega) (by unfold clash; rw [h1, h2]; simp only [Nat.beq_refl, Bool.or_true, Bool.true_or])
      rw [this] at hs; cases hs
    have hstepG : mG (fun j => listed'.getD j false) rs 0 Γ0 = x.E.G (mG S rs 0 Γ0) := by
      conv => lhs; rw [hsplit]
      conv => rhs; rw [hsplit]
      rw [mG_append, mG_append, hlt, Nat.zero_add]
      unfold mG
      rw [show listed'.getD i false = true from by rw [hS', if_pos rfl], show S i = false from hS0, cond_true, cond_false]
      rw [mG_congr (S' := S) (rs.take i) 0 Γ0 (fun j _ hj => by show listed'.getD j false = _; rw [hS', if_neg (by omega)])]
      rw [mG_congr (S' := S) (rs.drop (i + 1)) (i + 1) _ (fun j hj _ => by show listed'.getD j false = _; rw [hS', if_neg (by omega)])]
      refine mG_past x.E _ _ _ fun j y hy hs g h1 h2 => ?_
      have := hafter (i + 1 + j) y (hdropget j y hy) (by omega) (by
        unfold clash
        have : x.ids.any (fun g => mem y.G g || mem y.ids g) = true := List.any_eq_true.2 ⟨g, h1, by simp only [(mem_iff (l := y.ids)).2 h2, Bool.or_true]⟩
        simp only [this, Bool.or_true, Bool.true_or])
      rw [this] at hs; cases hs
    have hcnt : cnt listed'.toList ≤ fuel := by
      have h1 : listed.toList[i]? = some false := by
        simp only [Array.getElem?_toList]
        rw [Array.getElem?_eq_getElem his]
        rw [Array.getD_eq_getD_getElem?, Array.getElem?_eq_getElem his] at hS0
        simpa using hS0
      have h2 := cnt_set listed.toList i h1
      simp only [listed', Array.toList_setIfInBounds]
      omega
    have next : ∀ a' w', Reps C (x.E.L (mL S rs 0 L0)) (x.E.G (mG S rs 0 Γ0)) a' w' → wpAny P .any ops Q fuel listed' a' w' := fun a' w' hr => by
      refine ih listed' a' w' (by simp [listed', hsz]) hcnt hcl' ?_
      rw [hstepL, hstepG]; exact hr
    have hpinL : pin (stL (rs.take i) L0) (x.rT ops) (mL S rs 0 L0) = mL S rs 0 L0 := pin_eq hrT
    have hpinG : pin (stG (rs.take i) Γ0) x.G (mG S rs 0 Γ0) = mG S rs 0 Γ0 := pin_eq fun g hg => hG g (by simp only [mem_iff.2 hg, Bool.true_or])
    have hob := obs_at hobs hx
    unfold wpOp
    rw [ho]
    dsimp only
    unfold Ob at hob
    cases hgd : x.o.guard with
    | none =>
      rw [hgd] at hob
      have hot := hob (mL S rs 0 L0) (mG S rs 0 Γ0)
      simp only [hpinL, hpinG] at hot
      have hw : Region.wanted x.o (yielded ops a.tmps) = true := by unfold Region.wanted; rw [hgd]
      rw [if_pos hw]
      exact .inl (wp_weak (hot a w hreps) next)
    | some gw =>
      obtain ⟨j, want⟩ := gw
      rw [hgd] at hob
      obtain ⟨ρ, hreps'⟩ := hreps
      rcases hob with ⟨t, d, h1, h2, h3, k1, k2, k3⟩ | hob
      · have h3' : evv (mL S rs 0 L0) (.tmp t) = some undef := by
          have : ev (mL S rs 0 L0) (.tmp t) = ev (stL (rs.take i) L0) (.tmp t) := hrT t (mem_iff.1 h2)
          unfold evv at h3 ⊢
          rw [this]; exact h3
        rw [if_neg (by rw [wanted_undef hreps' hgd h1 h3']; simp)]
        refine next _ _ ?_
        rw [k1, k3]
        exact ⟨ρ, hreps'.put (by simpa using k2) rfl (fun g hg => by simp [AV.id] at hg)⟩
      obtain ⟨t, b, h1, h2, h3, h4, h5⟩ := hob
      have h3' : evv (mL S rs 0 L0) (.tmp t) = some (.bool b) := by
        have : ev (mL S rs 0 L0) (.tmp t) = ev (stL (rs.take i) L0) (.tmp t) := hrT t (mem_iff.1 h2)
        unfold evv at h3 ⊢
        rw [this]; exact h3
      have hw := wanted_of hreps' hgd h1 h3' (by simpa using h4)
      rw [hw]
      by_cases e : b = want
      · rw [if_pos (by simp [e])]
        rw [if_pos e] at h5
        have hot := h5 (mL S rs 0 L0) (mG S rs 0 Γ0)
        simp only [hpinL, hpinG] at hot
        exact .inl (wp_weak (hot a w ⟨ρ, hreps'⟩) next)
      · rw [if_neg (by simp [e])]
        rw [if_neg e] at h5
        obtain ⟨d, k1, k2, k3⟩ := h5
        refine next _ _ ?_
        rw [k1, k3]
        exact ⟨ρ, hreps'.put (by simpa using k2) rfl (fun g hg => by simp [AV.id] at hg)⟩
theorem reps_drawn {L : Lo} {Γ : Ga} {a : Act} {w : World} (h : Reps C L Γ a w) : Reps C L Γ a { w with drawn := w.drawn + 1 } := by
  obtain ⟨ρ, h⟩ := h
  exact ⟨ρ, h.ext ⟨rfl, rfl, rfl, Nat.le_refl _, fun _ _ => rfl⟩⟩
/-- A region that draws its order, walked in the listed order. -/
theorem TC.draw {L : Lo} {Γ : Ga} {Q : Exit → Act → World → Prop} {id : Nat} {l : List Oper} (hm : P.follows .mixedOrders = true) (rs : List Ro) (hl : l = rs.map (·.o)) (hobs : Obs P C l.toArray rs L Γ) (hok : drawOK rs = true) (hend : TE C (Q .normal) (stL rs L) (stG rs Γ)) :
    TC P C (.region id l.toArray true) Q L Γ := fun a w hr => by
  refine wp_region_any hm ?_
  refine draw_sound (by rw [hl]) hok hobs hend _ _ a _ (by rw [hl]; simp) ?_ (fun j o _ hj => ?_) ?_
  · have : ∀ n, cnt (List.replicate n false) = n := fun n => by induction n with
      | zero => rfl
      | succ n ih => rw [List.replicate_succ]; simp only [cnt, ih, cond_false]; omega
    simp [this]
  · rw [Array.getD_eq_getD_getElem?, Array.getElem?_replicate] at hj
    split at hj <;> simp at hj
  · have h0 : (fun i => (Array.replicate l.toArray.size false).getD i false) = fun _ => false := by
      funext i
      rw [Array.getD_eq_getD_getElem?, Array.getElem?_replicate]
      split <;> rfl
    rw [h0, mL_none, mG_none]
    exact reps_drawn hr
end
end Go.Proofs.Ythbcbfghfhecjaa.Pl
