import Derived.Test.YtmjokdhhniblgaaGreatYXc
/-
  A logic of walks: a region that draws its order, one operation of which makes a value that the others are told by.
-/
namespace Go.Proofs.YtmjokdhhniblgaaGreat.Pl
set_option linter.unusedVariables false
set_option linter.unusedSimpArgs false
set_option linter.unusedSectionVars false
open Go.RowKit
section
variable {P : Program} {C : Cx}
theorem draw_step {rs : List Ro} {L0 : Lo} {Γ0 : Ga} {ops : Array Oper} (hops : ops = (rs.map (·.o)).toArray) (hok : drawOK rs = true) {listed : Array Bool} {i : Nat} {x : Ro} (hx : rs[i]? = some x) (hsz : listed.size = rs.length) (hS0 : listed.getD i false = false)
    (hcl : ∀ j o, (rs.map (·.o))[j]? = some o → listed.getD j false = true → ∀ e ∈ o.after, bnds e = true → listed.getD e.on false = true) (hpre : ∀ e ∈ x.o.after, bnds e = true → listed.getD e.on false = true) :
    (∀ j, listed.getD j false = true → ∀ k, ((bmGo (rs.map (·.o)) []).getD j 0).testBit k = true → listed.getD k false = true) ∧
    (∀ j o, (rs.map (·.o))[j]? = some o → (listed.setIfInBounds i true).getD j false = true → ∀ e ∈ o.after, bnds e = true → (listed.setIfInBounds i true).getD e.on false = true) ∧
    mL (fun j => (listed.setIfInBounds i true).getD j false) rs 0 L0 = x.E.L (mL (fun j => listed.getD j false) rs 0 L0) ∧
    mG (fun j => (listed.setIfInBounds i true).getD j false) rs 0 Γ0 = x.E.G (mG (fun j => listed.getD j false) rs 0 Γ0) ∧
    pin (stL (rs.take i) L0) (x.rT ops) (mL (fun j => listed.getD j false) rs 0 L0) = mL (fun j => listed.getD j false) rs 0 L0 ∧
    pin (stG (rs.take i) Γ0) x.G (mG (fun j => listed.getD j false) rs 0 Γ0) = mG (fun j => listed.getD j false) rs 0 Γ0 := by
  have hok' := hok
  unfold drawOK at hok
  simp only [Bool.and_eq_true] at hok
  obtain ⟨⟨⟨hback, hdst⟩, hsel⟩, hpairs⟩ := hok
  rw [← hops] at hpairs
  have hil : i < rs.length := (List.getElem?_eq_some_iff.1 hx).1
  have his : i < listed.size := by rw [hsz]; exact hil
  let S : Nat → Bool := fun j => listed.getD j false
  -- the listed set with i, and what it is closed under
  have hclosed : ∀ j, S j = true → ∀ k, ((bmGo (rs.map (·.o)) []).getD j 0).testBit k = true → S k = true := fun j hj k hk =>
    bm_closed (S := fun j => S j = true) (rs.map (·.o)) [] [] rfl (by rw [List.nil_append]; exact hcl) (fun j _ k hk => by simp at hk) j hj k hk
  let listed' := listed.setIfInBounds i true
  have hS' : ∀ j, listed'.getD j false = if j = i then true else S j := by
    intro j
    by_cases e : j = i
    · subst e; simp [listed', his]
    · rw [if_neg e]; simp only [listed', S, Array.getD_eq_getD_getElem?, Array.getElem?_setIfInBounds_ne (Ne.symm e)]
  have hcl' : ∀ j o, (rs.map (·.o))[j]? = some o → listed'.getD j false = true → ∀ e ∈ o.after, bnds e = true → listed'.getD e.on false = true := by
    intro j o hjo hj e he hb
    rw [hS']
    split
    · rfl
    · by_cases e' : j = i
      · subst e'
        have : o = x.o := by simp [hx] at hjo; exact hjo.symm
        subst this
        exact hpre e he hb
      · rw [hS', if_neg e'] at hj
        exact hcl j o hjo hj e he hb
  have hclosed' : ∀ j, listed'.getD j false = true → ∀ k, ((bmGo (rs.map (·.o)) []).getD j 0).testBit k = true → listed'.getD k false = true := fun j hj k hk =>
    bm_closed (S := fun j => listed'.getD j false = true) (rs.map (·.o)) [] [] rfl (by rw [List.nil_append]; exact hcl') (fun j _ k hk => by simp at hk) j hj k hk
  -- which rows clash with i
  have hbefore : ∀ j y, rs[j]? = some y → j < i → clash ops y x = true → S j = true := fun j y hy hlt hc => by
    have h1 := okPairs_spec hpairs rfl j i y x hlt (Nat.zero_le _) (by simpa using hy) (by simpa using hx) hc
    have h2 := hclosed' i (by rw [hS', if_pos rfl]) j h1
    rw [hS', if_neg (by omega)] at h2; exact h2
  have hafter : ∀ j y, rs[j]? = some y → i < j → clash ops x y = true → S j = false := fun j y hy hlt hc => by
    have h1 := okPairs_spec hpairs rfl i j x y hlt (Nat.zero_le _) (by simpa using hx) (by simpa using hy) hc
    cases hs : S j with
    | false => rfl
    | true => have := hclosed j hs i h1; rw [show S i = false from hS0] at this; cases this
  -- what i looks at is what it looks at in the listed order
  have hrT : ∀ t ∈ x.rT ops, mL S rs 0 L0 t = stL (rs.take i) L0 t := fun t ht => by
    refine agreeL rs 0 i L0 L0 rfl fun j y hy ⟨X, hw⟩ => ⟨fun hlt => ?_, fun hle => ?_⟩
    · rw [Nat.zero_add]
      refine hbefore j y hy hlt ?_
      unfold clash
      rw [hw]
      simp only [mem_iff.2 ht, Bool.true_or]
    · rw [Nat.zero_add]
      by_cases e : j = i
      · subst e; exact hS0
      · refine hafter j y hy (by omega) ?_
        unfold clash
        rw [hw]
        simp only [mem_iff.2 ht, Bool.or_true, Bool.true_or]
  have hG : ∀ g, (mem x.G g || mem x.ids g) = true → mG S rs 0 Γ0 g = stG (rs.take i) Γ0 g := fun g hg => by
    refine agreeG rs 0 i Γ0 Γ0 rfl fun j y hy hw => ⟨fun hlt => ?_, fun hle => ?_⟩
    · rw [Nat.zero_add]
      refine hbefore j y hy hlt ?_
      unfold clash
      have : y.ids.any (fun g => mem x.G g || mem x.ids g) = true := List.any_eq_true.2 ⟨g, hw, hg⟩
      simp only [this, Bool.or_true, Bool.true_or]
    · rw [Nat.zero_add]
      by_cases e : j = i
      · subst e; exact hS0
      · refine hafter j y hy (by omega) ?_
        unfold clash
        have : y.ids.any (fun g => mem x.G g || mem x.ids g) = true := List.any_eq_true.2 ⟨g, hw, hg⟩
        simp only [this, Bool.or_true]
  -- the state behind i
  have hxe : rs[i] = x := by have := List.getElem?_eq_getElem hil; rw [hx] at this; injection this with h; exact h.symm
  have hsplit : rs = rs.take i ++ x :: rs.drop (i + 1) := by rw [← hxe, List.getElem_cons_drop hil, List.take_append_drop]
  have hlt : (rs.take i).length = i := by rw [List.length_take]; omega
  have hdropget : ∀ j y, (rs.drop (i + 1))[j]? = some y → rs[i + 1 + j]? = some y := fun j y hy => by rw [List.getElem?_drop] at hy; exact hy
  have hstepL : mL (fun j => listed'.getD j false) rs 0 L0 = x.E.L (mL S rs 0 L0) := by
    conv => lhs; rw [hsplit]
    conv => rhs; rw [hsplit]
    rw [mL_append, mL_append, hlt, Nat.zero_add]
    unfold mL
    rw [show listed'.getD i false = true from by rw [hS', if_pos rfl], show S i = false from hS0, cond_true, cond_false]
    rw [mL_congr (S' := S) (rs.take i) 0 L0 (fun j _ hj => by show listed'.getD j false = _; rw [hS', if_neg (by omega)])]
    rw [mL_congr (S' := S) (rs.drop (i + 1)) (i + 1) _ (fun j hj _ => by show listed'.getD j false = _; rw [hS', if_neg (by omega)])]
    refine mL_past x.E _ _ _ fun j y hy hs t ⟨X, h1⟩ ⟨Y, h2⟩ => ?_
    have := hafter (i + 1 + j) y (hdropget j y hy) (by omega) (by unfold clash; rw [h1, h2]; simp only [Nat.beq_refl, Bool.or_true, Bool.true_or])
    rw [this] at hs; cases hs
  have hstepG : mG (fun j => listed'.getD j false) rs 0 Γ0 = x.E.G (mG S rs 0 Γ0) := by
    conv => lhs; rw [hsplit]
    conv => rhs; rw [hsplit]
    rw [mG_append, mG_append, hlt, Nat.zero_add]
    unfold mG
    rw [show listed'.getD i false = true from by rw [hS', if_pos rfl], show S i = false from hS0, cond_true, cond_false]
    rw [mG_congr (S' := S) (rs.take i) 0 Γ0 (fun j _ hj => by show listed'.getD j false = _; rw [hS', if_neg (by omega)])]
    rw [mG_congr (S' := S) (rs.drop (i + 1)) (i + 1) _ (fun j hj _ => by show listed'.getD j false = _; rw [hS', if_neg (by omega)])]
    refine mG_past x.E _ _ _ fun j y hy hs g h1 h2 => ?_
    have := hafter (i + 1 + j) y (hdropget j y hy) (by omega) (by
      unfold clash
      have : x.ids.any (fun g => mem y.G g || mem y.ids g) = true := List.any_eq_true.2 ⟨g, h1, by simp only [(mem_iff (l := y.ids)).2 h2, Bool.or_true]⟩
      simp only [this, Bool.or_true, Bool.true_or])
    rw [this] at hs; cases hs
  have hpinL : pin (stL (rs.take i) L0) (x.rT ops) (mL S rs 0 L0) = mL S rs 0 L0 := pin_eq hrT
  have hpinG : pin (stG (rs.take i) Γ0) x.G (mG S rs 0 Γ0) = mG S rs 0 Γ0 := pin_eq fun g hg => hG g (by simp only [mem_iff.2 hg, Bool.true_or])
  exact ⟨hclosed, hcl', hstepL, hstepG, hpinL, hpinG⟩
theorem draw_done {rs : List Ro} {L0 : Lo} {Γ0 : Ga} {ops : Array Oper} (hops : ops = (rs.map (·.o)).toArray) (hok : drawOK rs = true) {Q : Exit → Act → World → Prop} (hend : TE C (Q .normal) (stL rs L0) (stG rs Γ0)) (listed : Array Bool) (a : Act) (w : World) (hsz : listed.size = rs.length) (hr : Region.ready .any ops listed = []) (hreps : Reps C (mL (fun i => listed.getD i false) rs 0 L0) (mG (fun i => listed.getD i false) rs 0 Γ0) a w) : Q .normal a w := by
  have hok' := hok
  unfold drawOK at hok
  simp only [Bool.and_eq_true] at hok
  obtain ⟨⟨⟨hback, hdst⟩, hsel⟩, hpairs⟩ := hok
  rw [← hops] at hpairs
  have hback' : ∀ j x, rs[j]? = some x → ∀ e ∈ x.o.after, bnds e = true → e.on < j := by
    intro j x hx e he hb
    have h1 := List.all_eq_true.1 hback (x, j) (by rw [List.mem_iff_getElem?]; exact ⟨j, by rw [List.getElem?_zipIdx, hx]; simp⟩)
    have h2 := Array.all_eq_true_iff_forall_mem.1 h1 e he
    simpa [hb] using h2
  have hget : ∀ j, ops[j]? = (rs[j]?).map fun x : Ro => x.o := fun j => by rw [hops, List.getElem?_toArray, List.getElem?_map]
  have hall : ∀ listed : Array Bool, listed.size = rs.length → Region.ready .any ops listed = [] → ∀ j, j < rs.length → listed.getD j false = true := by
    intro listed hsz hr j
    induction j using Nat.strongRecOn with
    | _ j ih =>
      intro hj
      cases hl : listed.getD j false with
      | true => rfl
      | false =>
        exfalso
        have hx : rs[j]? = some rs[j] := List.getElem?_eq_getElem hj
        have : j ∈ Region.ready .any ops listed := by
          rw [mem_ready]
          refine ⟨?_, rs[j].o, by rw [hget, hx]; rfl, fun e he hb => ih e.on (hback' j _ hx e he hb) (by have := hback' j _ hx e he hb; omega)⟩
          have hjl : j < listed.size := by rw [hsz]; exact hj
          rw [Array.getD_eq_getD_getElem?, Array.getElem?_eq_getElem hjl] at hl ⊢
          simpa using hl
        rw [hr] at this; cases this
  have hdone : ∀ (listed : Array Bool) a w, listed.size = rs.length → Region.ready .any ops listed = [] → Reps C (mL (fun i => listed.getD i false) rs 0 L0) (mG (fun i => listed.getD i false) rs 0 Γ0) a w → Q .normal a w := by
    intro listed a w hsz hr hreps
    have h1 := hall listed hsz hr
    rw [mL_all rs 0 L0 (fun j _ hj => h1 j (by omega)), mG_all rs 0 Γ0 (fun j _ hj => h1 j (by omega))] at hreps
    exact hend a w hreps
  exact hdone listed a w hsz hr hreps
theorem mL_same {S : Nat → Bool} : ∀ (l l' : List Ro) (k : Nat) (L : Lo), l.length = l'.length → (∀ j y y', l[j]? = some y → l'[j]? = some y' → S (k + j) = true → y = y') → mL S l k L = mL S l' k L
  | [], [], k, L, _, _ => rfl
  | [], _ :: _, k, L, h, _ => by cases h
  | _ :: _, [], k, L, h, _ => by cases h
  | x :: r, x' :: r', k, L, h, hs => by
    unfold mL
    have e : (bif S k then x.E.L L else L) = (bif S k then x'.E.L L else L) := by
      cases hk : S k with
      | false => rfl
      | true => rw [hs 0 x x' rfl rfl hk]
    rw [e]
    exact mL_same r r' (k + 1) _ (by simpa using h) fun j y y' h1 h2 h3 => hs (j + 1) y y' (by simpa using h1) (by simpa using h2) (by rw [show k + (j + 1) = k + 1 + j by omega]; exact h3)
theorem mG_same {S : Nat → Bool} : ∀ (l l' : List Ro) (k : Nat) (L : Ga), l.length = l'.length → (∀ j y y', l[j]? = some y → l'[j]? = some y' → S (k + j) = true → y = y') → mG S l k L = mG S l' k L
  | [], [], k, L, _, _ => rfl
  | [], _ :: _, k, L, h, _ => by cases h
  | _ :: _, [], k, L, h, _ => by cases h
  | x :: r, x' :: r', k, L, h, hs => by
    unfold mG
    have e : (bif S k then x.E.G L else L) = (bif S k then x'.E.G L else L) := by
      cases hk : S k with
      | false => rfl
      | true => rw [hs 0 x x' rfl rfl hk]
    rw [e]
    exact mG_same r r' (k + 1) _ (by simpa using h) fun j y y' h1 h2 h3 => hs (j + 1) y y' (by simpa using h1) (by simpa using h2) (by rw [show k + (j + 1) = k + 1 + j by omega]; exact h3)
theorem drawu_sound {U : Type} {rsu : U → List Ro} {s : Nat} {L0 : Lo} {Γ0 : Ga} {ops : Array Oper} (hops : ∀ u, ops = ((rsu u).map (·.o)).toArray) (hok : ∀ u, drawOK (rsu u) = true)
    (hobs : ∀ u i x, i ≠ s → (rsu u)[i]? = some x → Ob P C ops x (stL ((rsu u).take i) L0) (stG ((rsu u).take i) Γ0))
    (hspec : ∀ u x, (rsu u)[s]? = some x → x.o.guard = none ∧ ∀ L1 Γ1 a w, Reps C (pin (stL ((rsu u).take s) L0) (x.rT ops) L1) (pin (stG ((rsu u).take s) Γ0) x.G Γ1) a w → x.o.wp P a w (fun a' w' => ∃ u' x', (rsu u')[s]? = some x' ∧ Reps C (x'.E.L (pin (stL ((rsu u).take s) L0) (x.rT ops) L1)) (x'.E.G (pin (stG ((rsu u).take s) Γ0) x.G Γ1)) a' w') (fun _ _ _ => False))
    (hconst : ∀ u u' j x y, (rsu u)[j]? = some x → (rsu u')[j]? = some y → ((bmGo ((rsu u).map (·.o)) []).getD j 0).testBit s = false → j ≠ s → x = y)
    {Q : Exit → Act → World → Prop} (hend : ∀ u, TE C (Q .normal) (stL (rsu u) L0) (stG (rsu u) Γ0)) :
    ∀ (fuel : Nat) (listed : Array Bool) (u : U) (a : Act) (w : World), listed.size = (rsu u).length → cnt listed.toList ≤ fuel →
      (∀ j o, ((rsu u).map (·.o))[j]? = some o → listed.getD j false = true → ∀ e ∈ o.after, bnds e = true → listed.getD e.on false = true) →
      Reps C (mL (fun i => listed.getD i false) (rsu u) 0 L0) (mG (fun i => listed.getD i false) (rsu u) 0 Γ0) a w → wpAny P .any ops Q fuel listed a w := by
  have hlen : ∀ u u', (rsu u').length = (rsu u).length := fun u u' => by
    have h1 := congrArg Array.size (hops u'); have h2 := congrArg Array.size (hops u)
    simp at h1 h2; omega
  have hmap : ∀ u u', (rsu u').map (·.o) = (rsu u).map (·.o) := fun u u' => by
    have h1 := hops u'; rw [hops u] at h1; exact (congrArg Array.toList h1).symm
  intro fuel
  induction fuel with
  | zero =>
    intro listed u a w hsz hc hcl hreps
    have hget : ∀ j, ops[j]? = ((rsu u)[j]?).map fun x : Ro => x.o := fun j => by rw [hops u, List.getElem?_toArray, List.getElem?_map]
    have hr : Region.ready .any ops listed = [] := by
      rw [List.eq_nil_iff_forall_not_mem]
      intro j hj
      obtain ⟨h0, o, ho, _⟩ := mem_ready.1 hj
      have hjl : j < listed.size := by
        rw [hget] at ho
        rw [hsz]
        cases hx : (rsu u)[j]? with
        | none => simp [hx] at ho
        | some x => exact (List.getElem?_eq_some_iff.1 hx).1
      have := cnt_zero listed.toList j listed[j] (by omega) (by simp [hjl])
      rw [Array.getD_eq_getD_getElem?, Array.getElem?_eq_getElem hjl] at h0
      simp [this] at h0
    exact ⟨hr, draw_done (hops u) (hok u) (hend u) listed a w hsz hr hreps⟩
  | succ fuel ih =>
    intro listed u a w hsz hc hcl hreps
    have hget : ∀ j, ops[j]? = ((rsu u)[j]?).map fun x : Ro => x.o := fun j => by rw [hops u, List.getElem?_toArray, List.getElem?_map]
    refine ⟨fun hr => draw_done (hops u) (hok u) (hend u) listed a w hsz hr hreps, fun i hi => ?_⟩
    obtain ⟨h0, o, ho, hpre⟩ := mem_ready.1 hi
    have hx : ∃ x, (rsu u)[i]? = some x ∧ x.o = o := by
      rw [hget] at ho
      cases hx : (rsu u)[i]? with
      | none => simp [hx] at ho
      | some x => exact ⟨x, rfl, by simpa [hx] using ho⟩
    obtain ⟨x, hx, rfl⟩ := hx
    have hil : i < (rsu u).length := (List.getElem?_eq_some_iff.1 hx).1
    have his : i < listed.size := by rw [hsz]; exact hil
    have hS0 : listed.getD i false = false := by
      rw [Array.getD_eq_getD_getElem?, Array.getElem?_eq_getElem his] at h0 ⊢
      simpa using h0
    obtain ⟨hclosed, hcl', hstepL, hstepG, hpinL, hpinG⟩ := draw_step (L0 := L0) (Γ0 := Γ0) (hops u) (hok u) hx hsz hS0 hcl hpre
    have hcnt : cnt (listed.setIfInBounds i true).toList ≤ fuel := by
      have h1 : listed.toList[i]? = some false := by
        simp only [Array.getElem?_toList]
        rw [Array.getElem?_eq_getElem his]
        rw [Array.getD_eq_getD_getElem?, Array.getElem?_eq_getElem his] at hS0
        simpa using hS0
      have h2 := cnt_set listed.toList i h1
      simp only [Array.toList_setIfInBounds]
      omega
    have next : ∀ a' w', Reps C (x.E.L (mL (fun j => listed.getD j false) (rsu u) 0 L0)) (x.E.G (mG (fun j => listed.getD j false) (rsu u) 0 Γ0)) a' w' → wpAny P .any ops Q fuel (listed.setIfInBounds i true) a' w' := fun a' w' hr => by
      refine ih _ u a' w' (by simp [hsz]) hcnt hcl' ?_
      rw [hstepL, hstepG]; exact hr
    by_cases hs : i = s
    · subst hs
      obtain ⟨hgd, hot⟩ := hspec u x hx
      have hot := hot (mL (fun j => listed.getD j false) (rsu u) 0 L0) (mG (fun j => listed.getD j false) (rsu u) 0 Γ0)
      simp only [hpinL, hpinG] at hot
      have hw : Region.wanted x.o (yielded ops a.tmps) = true := by unfold Region.wanted; rw [hgd]
      unfold wpOp
      rw [ho]
      dsimp only
      rw [if_pos hw]
      refine .inl (wp_weak (hot a w hreps) fun a' w' hr => ?_)
      obtain ⟨u', x', hx', hr⟩ := hr
      have hsame : ∀ j y y', (rsu u)[j]? = some y → (rsu u')[j]? = some y' → listed.getD (0 + j) false = true → y = y' := fun j y y' h1 h2 h3 => by
        rw [Nat.zero_add] at h3
        refine hconst u u' j y y' h1 h2 ?_ (fun e => by rw [e, hS0] at h3; cases h3)
        cases hb : ((bmGo ((rsu u).map (·.o)) []).getD j 0).testBit i with
        | false => rfl
        | true => have := hclosed j h3 i hb; rw [hS0] at this; cases this
      have hxo : x'.o = x.o := by
        have h1 := congrArg (fun l => l[i]?) (hmap u u')
        simp only [List.getElem?_map, hx', hx, Option.map_some, Option.some.injEq] at h1
        exact h1
      obtain ⟨_, hcl2, hsL, hsG, _, _⟩ := draw_step (L0 := L0) (Γ0 := Γ0) (hops u') (hok u') hx' (by rw [hlen u u']; exact hsz) hS0 (by rw [hmap u u']; exact hcl) (by rw [hxo]; exact hpre)
      refine ih _ u' a' w' (by rw [hlen u u']; simp [hsz]) hcnt hcl2 ?_
      rw [hsL, hsG, ← mL_same (S := fun j => listed.getD j false) (rsu u) (rsu u') 0 L0 (hlen u u').symm hsame, ← mG_same (S := fun j => listed.getD j false) (rsu u) (rsu u') 0 Γ0 (hlen u u').symm hsame]
      exact hr
    have hob := hobs u i x hs hx
    unfold wpOp
    rw [ho]
    dsimp only
    unfold Ob at hob
    cases hgd : x.o.guard with
    | none =>
      rw [hgd] at hob
      have hot := hob (mL (fun j => listed.getD j false) (rsu u) 0 L0) (mG (fun j => listed.getD j false) (rsu u) 0 Γ0)
      simp only [hpinL, hpinG] at hot
      have hw : Region.wanted x.o (yielded ops a.tmps) = true := by unfold Region.wanted; rw [hgd]
      rw [if_pos hw]
      exact .inl (wp_weak (hot a w hreps) next)
    | some gw =>
      obtain ⟨j, want⟩ := gw
      rw [hgd] at hob
      obtain ⟨ρ, hreps'⟩ := hreps
      rcases hob with ⟨t, d, h1, h2, h3, k1, k2, k3⟩ | hob
      · have h3' : evv (mL (fun j => listed.getD j false) (rsu u) 0 L0) (.tmp t) = some undef := by
          have : ev (mL (fun j => listed.getD j false) (rsu u) 0 L0) (.tmp t) = ev (stL ((rsu u).take i) L0) (.tmp t) := by have q := congrFun hpinL t; unfold pin at q; rw [h2, cond_true] at q; exact q.symm
          unfold evv at h3 ⊢
          rw [this]; exact h3
        rw [if_neg (by rw [wanted_undef hreps' hgd h1 h3']; simp)]
        refine next _ _ ?_
        rw [k1, k3]
        exact ⟨ρ, hreps'.put (by simpa using k2) rfl (fun g hg => by simp [AV.id] at hg)⟩
      obtain ⟨t, b, h1, h2, h3, h4, h5⟩ := hob
      have h3' : evv (mL (fun j => listed.getD j false) (rsu u) 0 L0) (.tmp t) = some (.bool b) := by
        have : ev (mL (fun j => listed.getD j false) (rsu u) 0 L0) (.tmp t) = ev (stL ((rsu u).take i) L0) (.tmp t) := by have q := congrFun hpinL t; unfold pin at q; rw [h2, cond_true] at q; exact q.symm
        unfold evv at h3 ⊢
        rw [this]; exact h3
      have hw := wanted_of hreps' hgd h1 h3' (by simpa using h4)
      rw [hw]
      by_cases e : b = want
      · rw [if_pos (by simp [e])]
        rw [if_pos e] at h5
        have hot := h5 (mL (fun j => listed.getD j false) (rsu u) 0 L0) (mG (fun j => listed.getD j false) (rsu u) 0 Γ0)
        simp only [hpinL, hpinG] at hot
        exact .inl (wp_weak (hot a w ⟨ρ, hreps'⟩) next)
      · rw [if_neg (by simp [e])]
        rw [if_neg e] at h5
        obtain ⟨d, k1, k2, k3⟩ := h5
        refine next _ _ ?_
        rw [k1, k3]
        exact ⟨ρ, hreps'.put (by simpa using k2) rfl (fun g hg => by simp [AV.id] at hg)⟩
/-- A region that draws its order, one operation of which makes what the others are told by. -/
theorem TC.drawu {L : Lo} {Γ : Ga} {Q : Exit → Act → World → Prop} {id : Nat} {l : List Oper} (hm : P.follows .mixedOrders = true) {U : Type} (u0 : U) (rsu : U → List Ro) (s : Nat) (hl : ∀ u, l = (rsu u).map (·.o))
    (hobs : ∀ u i x, i ≠ s → (rsu u)[i]? = some x → Ob P C l.toArray x (stL ((rsu u).take i) L) (stG ((rsu u).take i) Γ))
    (hspec : ∀ u x, (rsu u)[s]? = some x → x.o.guard = none ∧ ∀ L1 Γ1 a w, Reps C (pin (stL ((rsu u).take s) L) (x.rT l.toArray) L1) (pin (stG ((rsu u).take s) Γ) x.G Γ1) a w → x.o.wp P a w (fun a' w' => ∃ u' x', (rsu u')[s]? = some x' ∧ Reps C (x'.E.L (pin (stL ((rsu u).take s) L) (x.rT l.toArray) L1)) (x'.E.G (pin (stG ((rsu u).take s) Γ) x.G Γ1)) a' w') (fun _ _ _ => False))
    (hconst : ∀ u u' j x y, (rsu u)[j]? = some x → (rsu u')[j]? = some y → ((bmGo ((rsu u).map (·.o)) []).getD j 0).testBit s = false → j ≠ s → x = y)
    (hok : ∀ u, drawOK (rsu u) = true) (hend : ∀ u, TE C (Q .normal) (stL (rsu u) L) (stG (rsu u) Γ)) :
    TC P C (.region id l.toArray true) Q L Γ := fun a w hr => by
  refine wp_region_any hm ?_
  refine drawu_sound (fun u => by rw [← hl u]) hok hobs hspec hconst hend _ _ u0 a _ (by rw [hl u0]; simp) ?_ (fun j o _ hj => ?_) ?_
  · have : ∀ n, cnt (List.replicate n false) = n := fun n => by induction n with
      | zero => rfl
      | succ n ih => rw [List.replicate_succ]; simp only [cnt, ih, cond_false]; omega
    simp [this]
  · rw [Array.getD_eq_getD_getElem?, Array.getElem?_replicate] at hj
    split at hj <;> simp at hj
  · have h0 : (fun i => (Array.replicate l.toArray.size false).getD i false) = fun _ => false := by
      funext i
      rw [Array.getD_eq_getD_getElem?, Array.getElem?_replicate]
      split <;> rfl
    rw [h0, mL_none, mG_none]
    exact reps_drawn hr
end
section
variable {P : Program} [V : Env P] {C : Cx} {Q : Exit → Act → World → Prop} {L L' : Lo} {Γ Γ' : Ga} {p : Pt} {S S' : List Fx} {m' : Nat}
/-- What the evaluation of plain operations tells of the rows. -/
theorem dgo_obs {all : List Oper} : ∀ (k : Nat) {pre pre' : List Ro} {l l' : List Oper} {L L' : Lo} {Γ Γ' : Ga} {m m' : Nat}, dgo P C.n all k pre l L Γ m = some (pre', l', L', Γ', m') → ∃ rs, pre' = rs.reverse ++ pre ∧ l = rs.map (·.o) ++ l' ∧ Obs P C all.toArray rs L Γ ∧ L' = stL rs L ∧ Γ' = stG rs Γ := by
  intro k
  induction k with
  | zero => intro pre pre' l l' L L' Γ Γ' m m' h; cases h; exact ⟨[], rfl, rfl, trivial, rfl, rfl⟩
  | succ k ih =>
    intro pre pre' l l' L L' Γ Γ' m m' h
    have one : ∀ {o : Oper} {E : Eff} {G : List Nat} {r : List Oper} {m2 : Nat} {L2 : Lo} {Γ2 : Ga}, L2 = E.L L → Γ2 = E.G Γ → Ob P C all.toArray ⟨o, E, G⟩ L Γ → dgo P C.n all k (⟨o, E, G⟩ :: pre) r L2 Γ2 m2 = some (pre', l', L', Γ', m') → ∃ rs, pre' = rs.reverse ++ pre ∧ o :: r = rs.map (·.o) ++ l' ∧ Obs P C all.toArray rs L Γ ∧ L' = stL rs L ∧ Γ' = stG rs Γ := by
      intro o E G r m2 L2 Γ2 e1 e2 ho hd
      subst e1 e2
      obtain ⟨rs, h1, h2, h3, h4, h5⟩ := ih hd
      exact ⟨⟨o, E, G⟩ :: rs, by rw [h1]; simp, by rw [h2]; rfl, ⟨ho, h3⟩, h4, h5⟩
    cases l with
    | nil => cases h
    | cons o r =>
      unfold dgo at h
      split at h
      · rename_i hw
        split at h
        all_goals first
          | (cases h; done)
          | (rename_i hy
             refine one ?_ ?_ (ob_true hw fun L1 Γ1 => ey_ok hy (fun z hz t e => by
               have : mem (o.looksAt all.toArray) t = true := by
                 rw [mem_iff]; unfold Oper.looksAt
                 refine List.mem_append.2 (.inl (List.mem_filterMap.2 ⟨z, hz, by rw [e]⟩))
               unfold pin; rw [this]; rfl) (fun g hg => by unfold pin; rw [mem_iff.2 hg]; rfl)) h
             · rfl
             · rfl)
      · rename_i hw
        split at h
        · rename_i d hd
          cases hb : Nat.blt d C.n with
          | true => rw [hb, cond_true] at h; exact one rfl rfl (ob_false hw hd hb) h
          | false => rw [hb, cond_false] at h; cases h
        · cases h
      · cases h
theorem upd_upd {α : Type} (f : Nat → Option α) (d : Nat) (x y : α) : upd (upd f d x) d y = upd f d y := by
  funext t
  by_cases e : t = d
  · subst e; rw [upd_same, upd_same]
  · rw [upd_other _ _ _ _ e, upd_other _ _ _ _ e, upd_other _ _ _ _ e]
/-- What stands ahead of the next text meets again. -/
theorem TE.jne (l : List (Nat × AV)) (g : List (Nat × AO)) {c y : Code} (h2 : TE C (Pt.wp P Q S (.c y)) (ls l) (ls g)) (h1 : TE C (Pt.wp P Q (.lp (fun a w => Reps C (ls l) (ls g) a w) :: S) (.c c)) L Γ) : TE C (Pt.wp P Q (.sq (.seq c y) :: S) (.e .normal)) L Γ := fun a w hr => wp_seq (TC.join (Q := den P Q S) l g h2 h1 a w hr)
/-- A drawn region: plain operations, one that makes a row of one's own (told from there on by its value), plain operations. -/
theorem TE.du [M : Mix P] (k m k1 k2 m3 g : Nat) {i m1 m2 d n sz e : Nat} {ds : List DV} {l : List Oper} {pre : List Ro} {o : Oper} {r : List Oper} {L1 : Lo} {Γ1 : Ga} (G : List Nat) {post : Option Addr × Nat → List Ro} {L2 : Option Addr × Nat → Lo} {Γ2 : Option Addr × Nat → Ga}
    (h : go P C.n 999 k p S L Γ m = some ⟨.c (.region i ⟨l⟩ true), S', L', Γ', m'⟩) (h1 : dgo P C.n l k1 [] l L' Γ' m' = some (pre, o :: r, L1, Γ1, m1)) (hgd : o.guard = none)
    (hs : ∀ L3 Γ3, OT P C o (pin L1 (o.looksAt l.toArray) L3) (pin Γ1 G Γ3) (upd (pin L1 (o.looksAt l.toArray) L3) d (.ow g n sz)) (upd (pin Γ1 G Γ3) g (.row e sz ds)))
    (h2 : ∀ u : Option Addr × Nat, dgo P C.n l k2 (⟨o, ⟨some (d, .d (.v (.slice u.1 n u.2))), [(g, .nrow (.slice u.1 n u.2) n e sz ds)]⟩, G⟩ :: pre) r (upd L1 d (.d (.v (.slice u.1 n u.2)))) (upd Γ1 g (.nrow (.slice u.1 n u.2) n e sz ds)) m3 = some (post u, [], L2 u, Γ2 u, m2))
    (hok : ∀ u, drawOK (post u).reverse = true)
    (hconst : ∀ u u' j x y, (post u).reverse[j]? = some x → (post u').reverse[j]? = some y → ((bmGo l []).getD j 0).testBit pre.length = false → j ≠ pre.length → x = y)
    (w : ∀ u, TE C (Pt.wp P Q S' (.e .normal)) (L2 u) (Γ2 u)) : TE C (p.wp P Q S) L Γ := go_ok 999 h (by
  obtain ⟨ra, a1, a2, a3, a4, a5⟩ := dgo_obs k1 h1
  rw [List.append_nil] at a1
  have hb := fun u => dgo_obs k2 (h2 u)
  have hpl : pre.length = ra.length := by rw [a1, List.length_reverse]
  have hrev : ∀ u, ∃ rb, (post u).reverse = ra ++ ⟨o, ⟨some (d, .d (.v (.slice u.1 n u.2))), [(g, .nrow (.slice u.1 n u.2) n e sz ds)]⟩, G⟩ :: rb ∧ r = rb.map (·.o) ∧ Obs P C l.toArray rb (upd L1 d (.d (.v (.slice u.1 n u.2)))) (upd Γ1 g (.nrow (.slice u.1 n u.2) n e sz ds)) ∧ L2 u = stL rb (upd L1 d (.d (.v (.slice u.1 n u.2)))) ∧ Γ2 u = stG rb (upd Γ1 g (.nrow (.slice u.1 n u.2) n e sz ds)) := fun u => by
    obtain ⟨rb, b1, b2, b3, b4, b5⟩ := hb u
    refine ⟨rb, ?_, by rw [b2, List.append_nil], b3, b4, b5⟩
    rw [b1, a1]; simp
  have hl : ∀ u, l = ((post u).reverse).map (·.o) := fun u => by
    obtain ⟨rb, c1, c2, _⟩ := hrev u
    rw [c1, a2, c2]; simp
  have stLa : ∀ (x y : List Ro) (L : Lo), stL (x ++ y) L = stL y (stL x L) := fun x => by
    induction x with
    | nil => intro y L; rfl
    | cons z x ih => intro y L; exact ih y _
  have stGa : ∀ (x y : List Ro) (L : Ga), stG (x ++ y) L = stG y (stG x L) := fun x => by
    induction x with
    | nil => intro y L; rfl
    | cons z x ih => intro y L; exact ih y _
  refine TC.drawu M.out (none, 0) (fun u => (post u).reverse) ra.length hl ?_ ?_ ?_ hok ?_
  · intro u i x hi hx
    obtain ⟨rb, c1, c2, c3, c4, c5⟩ := hrev u
    dsimp only at hx ⊢
    rw [c1] at hx ⊢
    rcases Nat.lt_or_ge i ra.length with hlt | hge
    · rw [List.getElem?_append_left hlt] at hx
      rw [List.take_append_of_le_length (by omega)]
      exact obs_at a3 hx
    · rw [List.getElem?_append_right hge] at hx
      have hne : i - ra.length ≠ 0 := by omega
      obtain ⟨j, hj⟩ : ∃ j, i - ra.length = j + 1 := ⟨i - ra.length - 1, by omega⟩
      rw [hj, List.getElem?_cons_succ] at hx
      rw [List.take_append, List.take_of_length_le (l := ra) (by omega), hj, List.take_succ_cons, stLa, stGa, ← a4, ← a5]
      exact obs_at c3 hx
  · intro u x hx
    obtain ⟨rb, c1, _⟩ := hrev u
    dsimp only at hx ⊢
    rw [c1] at hx ⊢
    rw [List.getElem?_append_right (Nat.le_refl _), Nat.sub_self] at hx
    injection hx with hx
    subst hx
    refine ⟨hgd, fun L3 Γ3 a w hr => ?_⟩
    rw [List.take_append_of_le_length (Nat.le_refl _), List.take_length, ← a4, ← a5] at hr ⊢
    refine wp_weak (hs L3 Γ3 a w hr) fun a' w' hr' => ?_
    obtain ⟨ad, c, hr'⟩ := reps_name d (upd_same _ _ _) (upd_same _ _ _) hr'
    obtain ⟨rb', c1', _⟩ := hrev (ad, c)
    refine ⟨(ad, c), _, by rw [c1', List.getElem?_append_right (Nat.le_refl _), Nat.sub_self]; rfl, ?_⟩
    rw [upd_upd, upd_upd] at hr'
    exact hr'
  · intro u u' j x y hx hy hb hj
    refine hconst u u' j x y hx hy ?_ (by rw [hpl]; exact hj)
    rw [hpl]
    rw [← hl u] at hb; exact hb
  · intro u
    obtain ⟨rb, c1, c2, c3, c4, c5⟩ := hrev u
    dsimp only
    rw [c1, stLa, stGa, ← a4, ← a5]
    have := w u
    rw [c4, c5] at this
    exact this)
end
end Go.Proofs.YtmjokdhhniblgaaGreat.Pl

