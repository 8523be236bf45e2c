/-
  A logic of walks: what is written, what is new.
-/
import Derived.Test.YthbcbfghfhecjaaPc
namespace Go.Proofs.Ythbcbfghfhecjaa.Pl
set_option linter.unusedVariables false
set_option linter.unusedSimpArgs false
open Go.RowKit

section
variable {P : Program} {C : Cx} {ρ : Rho} {L : Lo} {Γ : Ga} {a : Act} {w : World}
theorem live_upd {Γ : Ga} {g : Nat} {o : AO} (ho : o ≠ .dead) (g' : Nat) : live (upd Γ g o) g' ↔ g' = g ∨ live Γ g' := by
  constructor
  · rintro ⟨x, h1, h2⟩
    rcases upd_some h1 with ⟨rfl, _⟩ | ⟨_, h⟩
    · exact .inl rfl
    · exact .inr ⟨x, h, h2⟩
  · rintro h
    by_cases e : g' = g
    · subst e; exact ⟨o, upd_same _ _ _, ho⟩
    · obtain ⟨x, h1, h2⟩ := h.resolve_left e
      exact ⟨x, by rw [upd_other _ _ _ _ e]; exact h1, h2⟩
theorem KK_upd {K0 : Nat → Prop} {Γ : Ga} {g : Nat} {o : AO} (ho : o ≠ .dead) (hg : live Γ g) : KK K0 ρ (upd Γ g o) = KK K0 ρ Γ := by
  funext b
  refine propext ⟨?_, ?_⟩
  · rintro (h | ⟨g', h1, h2⟩)
    · exact .inl h
    · rcases (live_upd ho g').1 h1 with rfl | h1
      · exact .inr ⟨g', hg, h2⟩
      · exact .inr ⟨g', h1, h2⟩
  · rintro (h | ⟨g', h1, h2⟩)
    · exact .inl h
    · exact .inr ⟨g', (live_upd ho g').2 (.inr h1), h2⟩
/-- A block of one's own is turned. -/
theorem RepsAt.turn (h : RepsAt C ρ L Γ a w) {g b : Nat} {o' : AO} {w' : World} (hg : live Γ g) (hb : ρ g = some (some b)) (hgr : w.grownBy w' (some b)) (hz : bsz w' b = bsz w b) (ho' : o' ≠ .dead) (hM : ∀ o, Γ g = some o → o.key = o'.key)
    (ho : o'.rep (KK C.K0 ρ Γ) w' (some b)) : RepsAt C ρ L (upd Γ g o') a w' := by
  have hk : Keeps (KK C.K0 ρ Γ) (KK C.K0 ρ Γ) w w' := fun b' hb' hn => ⟨hgr.block b' hb' (fun e => hn (.inr ⟨g, hg, by rw [hb]; cases e; rfl⟩)), Nat.lt_of_lt_of_le hb' hgr.size, hn⟩
  have hs : ∀ g' b', ρ g' = some (some b') → bsz w' b' = bsz w b' := fun g' b' h' => by
    by_cases e : b' = b
    · subst e; exact hz
    · exact bsz_block (hgr.block b' (h.lt g' b' h') (fun x => e (by cases x; rfl)))
  refine ⟨h.df, h.sz, h.k0, h.fr.grown hgr (fun k e => by cases e; obtain ⟨o, q1, q2⟩ := hg; cases hkk : o.key with | none => exact .inl (h.new g b o q1 q2 hkk hb) | some k => exact .inr ⟨⟨k, h.len g o k _ q1 hkk hb⟩, hz⟩), fun g' hn => h.dom g' (fun x => hn ((live_upd ho' g').2 (.inr x))), fun t X g' ht hx => ?_, fun g' b' h' => Nat.lt_of_lt_of_le (h.lt g' b' h') hgr.size, ?_, ?_, ?_, ?_, ?_⟩
  · by_cases e : g' = g
    · subst e; rw [upd_same]; simp
    · rw [upd_other _ _ _ _ e]; exact h.ment t X g' ht hx
  · intro g1 g2 b' h1 h2 l1 l2
    have e1 : live Γ g1 := ((live_upd ho' g1).1 l1).elim (fun e => e ▸ hg) id
    have e2 : live Γ g2 := ((live_upd ho' g2).1 l2).elim (fun e => e ▸ hg) id
    exact h.inj g1 g2 b' h1 h2 e1 e2
  · intro g' b' o h1 h2 h3 h'
    rcases upd_some h1 with ⟨rfl, rfl⟩ | ⟨_, h1⟩
    · obtain ⟨oo, q1, q2⟩ := hg
      exact h.new g' b' oo q1 q2 ((hM oo q1).trans h3) h'
    · exact h.new g' b' o h1 h2 h3 h'
  · intro g' o k ob h1 h3 h'
    rcases upd_some h1 with ⟨rfl, rfl⟩ | ⟨_, h1⟩
    · obtain ⟨oo, q1, q2⟩ := hg
      exact h.len g' oo k ob q1 ((hM oo q1).trans h3) h'
    · exact h.len g' o k ob h1 h3 h'
  · intro g' o h1 h2
    rw [KK_upd ho' hg]
    rcases upd_some h1 with ⟨rfl, rfl⟩ | ⟨hne, h1⟩
    · exact ⟨_, hb, ho⟩
    · obtain ⟨ob, h3, h4⟩ := h.obj g' o h1 h2
      refine ⟨ob, h3, AO.rep_mono hk (fun b' e => ?_) o h4⟩
      subst e
      exact hgr.block b' (h.lt g' b' h3) (fun e => hne (h.inj g' g b' h3 (by rw [hb]; cases e; rfl) ⟨o, h1, h2⟩ hg))
  · intro t X ht
    rw [KK_upd ho' hg]
    exact AV.rep_mono hk hs X _ (h.slot t X ht)
/-- A new block; an elder one may go (its id is dead from then on). -/
theorem RepsAt.gain (h : RepsAt C ρ L Γ a w) {g : Nat} {ob ob' : Option Nat} {o' : AO} {w' : World} {Γ1 : Ga} (hg : Γ g = none)
    (hΓ : ∀ g' o, Γ1 g' = some o → o ≠ .dead → Γ g' = some o) (hd : ∀ g', Γ g' ≠ none → Γ1 g' ≠ none) (hfree : ∀ b g', ob = some b → live Γ1 g' → ρ g' ≠ some (some b))
    (hold : ∀ b, ob = some b → C.w0.heap.size ≤ b ∧ ∃ g', live Γ g' ∧ ρ g' = some (some b))
    (hgr : w.grownBy w' ob) (hob : ∀ b, ob' = some b → (ob = some b ∨ w.heap.size ≤ b) ∧ b < w'.heap.size) (ho' : o' ≠ .dead) (hkey : o'.key = none)
    (ho : ∀ K, (Keeps (KK C.K0 ρ Γ) K w w') → (∀ b, K b → b < w.heap.size ∨ ob' = some b) → o'.rep K w' ob') : ∃ ρ', RepsAt C ρ' L (upd Γ1 g o') a w' ∧ ρ' g = some ob' ∧ Keeps (KK C.K0 ρ Γ) (KK C.K0 ρ' (upd Γ1 g o')) w w' := by
  have hρg : ρ g = none := h.dom g (fun ⟨o, h1, _⟩ => by rw [hg] at h1; cases h1)
  have l1 : ∀ g', live Γ1 g' → live Γ g' := fun g' ⟨o, h1, h2⟩ => ⟨o, hΓ g' o h1 h2, h2⟩
  have hbw : ∀ b, ob = some b → b < w.heap.size := fun b e => by obtain ⟨g', _, h2⟩ := (hold b e).2; exact h.lt g' b h2
  classical
  let ρ' : Rho := fun x => if x = g then some ob' else if live Γ1 x then ρ x else none
  have r1 : ρ' g = some ob' := by simp [ρ']
  have r2 : ∀ x, x ≠ g → live Γ1 x → ρ' x = ρ x := fun x hx hl => by simp [ρ', hx, hl]
  have r3 : ∀ x y, x ≠ g → ρ' x = some y → live Γ1 x ∧ ρ x = some y := fun x y hx hy => by
    by_cases hl : live Γ1 x
    · rw [r2 x hx hl] at hy; exact ⟨hl, hy⟩
    · simp [ρ', hx, hl] at hy
  have notold : ∀ x b, x ≠ g → ρ' x = some (some b) → ob ≠ some b := fun x b hx hy e => hfree b x e (r3 x _ hx hy).1 (r3 x _ hx hy).2
  have hk : Keeps (KK C.K0 ρ Γ) (KK C.K0 ρ' (upd Γ1 g o')) w w' := fun b hb hn => by
    have hne : ob ≠ some b := fun e => hn (.inr (hold b e).2)
    refine ⟨hgr.block b hb (fun e => hne e.symm), Nat.lt_of_lt_of_le hb hgr.size, ?_⟩
    rintro (hK | ⟨g', h1, h2⟩)
    · exact hn (.inl hK)
    · by_cases e : g' = g
      · subst e
        rw [r1] at h2
        have := (hob b (by injection h2)).1
        rcases this with e | e
        · exact hne e
        · omega
      · obtain ⟨q1, q2⟩ := r3 g' _ e h2
        exact hn (.inr ⟨g', l1 g' q1, q2⟩)
  have hkb : ∀ b, KK C.K0 ρ' (upd Γ1 g o') b → b < w.heap.size ∨ ob' = some b := by
    rintro b (hK | ⟨g', h1, h2⟩)
    · exact .inl (Nat.lt_of_lt_of_le (h.k0 b hK).1 h.fr.size)
    · by_cases e : g' = g
      · subst e; rw [r1] at h2; right; injection h2
      · exact .inl (h.lt g' b (r3 g' _ e h2).2)
  refine ⟨ρ', ⟨h.df, h.sz, h.k0, h.fr.grown hgr (fun k e => .inl (hold k e).1), ?_, ?_, ?_, ?_, ?_, ?_, ?_, ?_⟩, r1, hk⟩
  · intro g' hn
    have hne : g' ≠ g := fun e => hn ((live_upd ho' g').2 (.inl e))
    have hl : ¬ live Γ1 g' := fun x => hn ((live_upd ho' g').2 (.inr x))
    simp [ρ', hne, hl]
  · intro t X g' ht hx
    by_cases e : g' = g
    · subst e; rw [upd_same]; simp
    · rw [upd_other _ _ _ _ e]; exact hd g' (h.ment t X g' ht hx)
  · intro g' b hb
    by_cases e : g' = g
    · subst e; rw [r1] at hb; exact (hob b (by injection hb)).2
    · exact Nat.lt_of_lt_of_le (h.lt g' b (r3 g' _ e hb).2) hgr.size
  · intro g1 g2 b h1 h2 k1 k2
    by_cases e1 : g1 = g <;> by_cases e2 : g2 = g
    · rw [e1, e2]
    · subst e1
      rw [r1] at h1
      have q := (hob b (by injection h1)).1
      rcases q with q | q
      · exact absurd q (notold g2 b e2 h2)
      · have := h.lt g2 b (r3 g2 _ e2 h2).2; omega
    · subst e2
      rw [r1] at h2
      have q := (hob b (by injection h2)).1
      rcases q with q | q
      · exact absurd q (notold g1 b e1 h1)
      · have := h.lt g1 b (r3 g1 _ e1 h1).2; omega
    · exact h.inj g1 g2 b (r3 g1 _ e1 h1).2 (r3 g2 _ e2 h2).2 (l1 _ (r3 g1 _ e1 h1).1) (l1 _ (r3 g2 _ e2 h2).1)
  · intro g' b o k1 k2 k3 hb
    by_cases e : g' = g
    · subst e
      rw [r1] at hb
      rcases (hob b (by injection hb)).1 with q | q
      · exact (hold b q).1
      · exact Nat.le_trans h.fr.size q
    · rw [upd_other _ _ _ _ e] at k1
      exact h.new g' b o (hΓ g' o k1 k2) k2 k3 (r3 g' _ e hb).2
  · intro g' o k oo k1 k3 hb
    by_cases e : g' = g
    · subst e
      rw [upd_same] at k1; cases k1
      rw [hkey] at k3; cases k3
    · rw [upd_other _ _ _ _ e] at k1
      exact h.len g' o k oo (hΓ g' o k1 (by rintro rfl; simp [AO.key] at k3)) k3 (r3 g' _ e hb).2
  · intro g' o h1 h2
    rcases upd_some h1 with ⟨rfl, rfl⟩ | ⟨hne, h1⟩
    · exact ⟨ob', r1, ho _ hk hkb⟩
    · obtain ⟨oo, h3, h4⟩ := h.obj g' o (hΓ g' o h1 h2) h2
      have hl1 : live Γ1 g' := ⟨o, h1, h2⟩
      refine ⟨oo, by rw [r2 g' hne hl1]; exact h3, AO.rep_mono hk (fun b e => ?_) o h4⟩
      subst e
      exact hgr.block b (h.lt g' b h3) (fun e => hfree b g' e.symm hl1 h3)
  · intro t X ht
    have hX := h.slot t X ht
    cases X with
    | d X => exact DV.rep_mono hk X _ hX
    | f X => exact DV.rep_mono (hk.widen (J := fun b => b < C.w0.heap.size)) X _ hX
    | ptr g' off =>
      intro oo hoo
      have hne : g' ≠ g := fun e => h.ment t _ g' ht rfl (e ▸ hg)
      exact hX oo (r3 g' _ hne hoo).2
    | bs g' off n sz =>
      intro oo hoo
      have hne : g' ≠ g := fun e => h.ment t _ g' ht rfl (e ▸ hg)
      obtain ⟨b, c, rfl, k2, k3, k4, k5⟩ := hX oo (r3 g' _ hne hoo).2
      refine ⟨b, c, rfl, k2, k3, k4, ?_⟩
      rw [bsz_block (hgr.block b (h.lt g' b (r3 g' _ hne hoo).2) (fun e => notold g' b hne hoo e.symm))]
      exact k5
    | ow g' n sz =>
      intro oo hoo
      have hne : g' ≠ g := fun e => h.ment t _ g' ht rfl (e ▸ hg)
      rcases hX oo (r3 g' _ hne hoo).2 with hX | ⟨b, c, rfl, k2, k3, k4, k5⟩
      · exact .inl hX
      · refine .inr ⟨b, c, rfl, k2, k3, k4, ?_⟩
        rw [bsz_block (hgr.block b (h.lt g' b (r3 g' _ hne hoo).2) (fun e => notold g' b hne hoo e.symm))]
        exact k5
theorem grown_alloc (w : World) (o : Obj) : w.grownBy (w.alloc o) none := ⟨rfl, rfl, rfl, by simp, fun k hk _ => heap_alloc_old _ _ hk⟩
theorem grown_alloc_drew (w : World) (o : Obj) : w.grownBy (w.drew.alloc o) none := ⟨rfl, rfl, rfl, by simp, fun k hk _ => heap_alloc_old w.drew _ hk⟩
/-- A new block without an elder one. -/
theorem RepsAt.fresh (h : RepsAt C ρ L Γ a w) {g b : Nat} {o' : AO} {w' : World} (hg : Γ g = none) (hgr : w.grownBy w' none) (hb : w.heap.size ≤ b ∧ b < w'.heap.size) (ho' : o' ≠ .dead) (hkey : o'.key = none)
    (ho : ∀ K, (Keeps (KK C.K0 ρ Γ) K w w') → (∀ b', K b' → b' < w.heap.size ∨ some b = some b') → o'.rep K w' (some b)) : ∃ ρ', RepsAt C ρ' L (upd Γ g o') a w' ∧ ρ' g = some (some b) ∧ Keeps (KK C.K0 ρ Γ) (KK C.K0 ρ' (upd Γ g o')) w w' :=
  h.gain (ob := none) (Γ1 := Γ) hg (fun _ _ h _ => h) (fun _ h => h) (fun b g' e => by cases e) (fun b e => by cases e) hgr (fun b' e => by cases e; exact ⟨.inr hb.1, hb.2⟩) ho' hkey ho
end

/-! The values of cells. -/
def DV.cells : DV → List DV
  | .ag cs => cs
  | .v (.agg us) => us.toList.map .v
  | X => [X]
def DV.one : DV → Bool
  | .v u => u.oneCell'
  | .sl .. => true
  | .el .. => true
  | .fn .. => true
  | _ => false
theorem one_rep {K : Nat → Prop} {w : World} {X : DV} {u : Value} (h : X.one = true) (hr : X.rep K w u) : u.oneCell' = true := by
  cases X <;> simp only [DV.one, Bool.false_eq_true] at h
  · simp only [DV.rep] at hr; subst hr; exact h
  · unfold DV.rep at hr; rcases hr with ⟨rfl, _⟩ | ⟨b, o, c, rfl, _⟩ <;> rfl
  · unfold DV.rep at hr; obtain ⟨b, o, rfl, _⟩ := hr; rfl
  · unfold DV.rep at hr; obtain ⟨us, vs, rfl, _⟩ := hr; rfl
theorem repL_v {K : Nat → Prop} {w : World} : ∀ us : List Value, repL K w (us.map .v) us
  | [] => by simp [repL]
  | u :: r => by rw [List.map_cons]; unfold repL; exact ⟨u, r, rfl, rfl, repL_v r⟩
theorem repL_v_eq {K : Nat → Prop} {w : World} : ∀ {us vs : List Value}, repL K w (us.map .v) vs → vs = us
  | [], vs, h => by simpa [repL] using h
  | u :: r, vs, h => by
    rw [List.map_cons] at h; unfold repL at h
    obtain ⟨x, t, rfl, h1, h2⟩ := h
    simp only [DV.rep] at h1
    rw [h1, repL_v_eq h2]
theorem cells_rep {K : Nat → Prop} {w : World} {X : DV} {u : Value} (h : X.rep K w u) (h1 : X.cells.all DV.one = true) : repL K w X.cells u.cells.toList ∧ ∀ x ∈ u.cells.toList, x.oneCell' = true := by
  have key : ∀ (cs : List DV) (us : List Value), repL K w cs us → cs.all DV.one = true → ∀ x ∈ us, x.oneCell' = true := by
    intro cs
    induction cs with
    | nil => intro us h _; unfold repL at h; subst h; simp
    | cons Y Ys ih =>
      intro us h h1
      unfold repL at h
      obtain ⟨u, t, rfl, h3, h4⟩ := h
      simp only [List.all_cons, Bool.and_eq_true] at h1
      intro x hx
      rcases List.mem_cons.1 hx with rfl | hx
      · exact one_rep h1.1 h3
      · exact ih t h4 h1.2 x hx
  have single : ∀ Y : DV, Y.one = true → Y.rep K w u → u.oneCell' = true → repL K w [Y] u.cells.toList := fun Y hY hr h1 => by
    have : u.cells = #[u] := by cases u <;> first | rfl | (simp [Value.oneCell'] at h1)
    rw [this]; unfold repL; exact ⟨u, [], rfl, hr, by simp [repL]⟩
  cases X with
  | ag cs =>
    unfold DV.rep at h
    obtain ⟨us, rfl, hl⟩ := h
    exact ⟨by simpa [DV.cells, Value.cells] using hl, by simpa [Value.cells] using key cs us hl h1⟩
  | v x =>
    simp only [DV.rep] at h
    subst h
    cases u with
    | agg us =>
      have hl : repL K w (us.toList.map .v) us.toList := repL_v us.toList
      exact ⟨hl, key _ _ hl h1⟩
    | _ => exact ⟨by unfold DV.cells Value.cells repL; exact ⟨_, [], rfl, rfl, by simp [repL]⟩, by
        intro x hx
        simp [Value.cells] at hx
        subst hx
        simpa [DV.cells, DV.one] using h1⟩
  | sl sz n cs =>
    have h2 := one_rep (X := .sl sz n cs) rfl h
    have h3 := single _ rfl h h2
    exact ⟨h3, key _ _ h3 (by simp [DV.one])⟩
  | el cs =>
    have h2 := one_rep (X := .el cs) rfl h
    have h3 := single _ rfl h h2
    exact ⟨h3, key _ _ h3 (by simp [DV.one])⟩
  | tp cs => simp [DV.cells, DV.one] at h1
  | fn f a c =>
    have h2 := one_rep (X := .fn f a c) rfl h
    have h3 := single _ rfl h h2
    exact ⟨h3, key _ _ h3 (by simp [DV.one])⟩
end Go.Proofs.Ythbcbfghfhecjaa.Pl
