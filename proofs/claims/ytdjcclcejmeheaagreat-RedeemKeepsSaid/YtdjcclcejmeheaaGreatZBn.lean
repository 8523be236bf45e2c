import Derived.Test.YtdjcclcejmeheaaGreatZBm
/-
  A logic of walks: the statement 'for i, v := range slices.Backward(path)': its rounds.
-/
namespace Go.Proofs.YtdjcclcejmeheaaGreat
set_option linter.unusedVariables false
set_option linter.unusedSimpArgs false
set_option maxRecDepth 20000
open Go.RowKit Pl
theorem upd_upd {α : Type} (f : Nat → Option α) (g : Nat) (x y : α) : upd (upd f g x) g y = upd f g y := by
  funext t
  by_cases e : t = g
  · subst e; rw [upd_same, upd_same]
  · rw [upd_other _ _ _ _ e, upd_other _ _ _ _ e, upd_other _ _ _ _ e]
theorem reps_act {C : Cx} {L : Lo} {Γ : Ga} {a a' : Act} {w : World} (h : Reps C L Γ a w) (hd : a'.defers = []) (hs : a'.tmps.size = C.n) (he : ∀ t X, L t = some X → a'.tmps.getD t undef = a.tmps.getD t undef) : Reps C L Γ a' w := by
  obtain ⟨ρ, h⟩ := h
  exact ⟨ρ, hd, hs, h.k0, h.fr, h.dom, h.ment, h.lt, h.inj, h.new, h.len, h.obj, fun t X ht => by rw [he t X ht]; exact h.slot t X ht⟩
theorem ls_mem {α : Type} : ∀ {l : List (Nat × α)} {t : Nat} {X : α}, ls l t = some X → t ∈ l.map (·.1)
  | [], t, X, h => by cases h
  | (s, v) :: r, t, X, h => by
    simp only [ls] at h
    cases hb : Nat.beq t s with
    | true => rw [Nat.beq_eq] at hb; subst hb; simp
    | false =>
      rw [hb] at h
      simp only [cond_false] at h
      exact List.mem_cons_of_mem _ (ls_mem h)
/-- The mark of the rounds' deferred calls. -/
def markD (D : Nat) : Deferred := { target := .collected D, args := #[] }
def emptyD : Obj := .deferred (some [])
set_option maxHeartbeats 1600000 in
theorem TCF.back {C : Cx} {n : Nat} {vv : Nat → Value} {Q : Exit → Act → World → Prop} {L : Lo} {Γ : Ga} {path : List H} {t p q : Nat} {assign body : Code} (hp : path.length ≤ 1048576) (gD gL : Nat) (hne : gD ≠ gL) {S : Type} (LI : S → Nat → List (Nat × AV)) (GI : S → Nat → List (Nat × AO)) (T : List Nat) (x0 : S)
    (hl : allL id L (ls (GI x0 0)) (LI x0 0)) (hm : allG id Γ (GI x0 0)) (hT : ∀ s k t' X, ls (LI s k) t' = some X → t' ∈ T) (hpT : mem T p = false) (hqT : mem T q = false) (hpq : p ≠ q) (hpn : Nat.blt p C.n = true) (hqn : Nat.blt q C.n = true)
    (ht : ∀ s k, ls (LI s k) t = some (.d (.fn (.func 149) [] [.el [slT hdv 32 path]]))) (hgD : ∀ s k, ls (GI s k) gD = none) (hgL : ∀ s k, ls (GI s k) gL = none)
    (round : ∀ (F : Fence) (v : Nat → Value) (A : Act → World → Prop) (B : Exit → Act → World → Prop) (oD oR oB : AO) (s : S) (k : Nat) (hk : k < path.length) (hj : path.length - 1 - k < path.length), OpenF F →
      (∀ s', TE C (QF ⟨F, n, T, v, []⟩ B .normal) (ls (LI s' (k + 1))) (upd (upd (ls (GI s' (k + 1))) gD oD) gL oB)) →
      (∀ (L' : Lo) (Γ' : Ga), Γ' gL = some oR → TCF ⟨F, n, T, v, []⟩ Tryz.prog C body B L' (upd Γ' gL oB) → TE C (fun a w => Fr ⟨F, n, T, v, []⟩ a → A { a with defers := [] } w) L' Γ') →
      TCF ⟨F, n, T, v, []⟩ Tryz.prog C assign (Exit.then A (fun _ _ _ => False)) (upd (upd (ls (LI s k)) p (.f (.v (.int .i64 ((path.length - 1 - k : Nat) : Int))))) q (.f (.ag (hdv path[path.length - 1 - k])))) (upd (upd (ls (GI s k)) gD oD) gL oR))
    (done : ∀ (D l : Nat) (x : Obj) (s : S), TE C (QF ⟨Fence.wide, n + 2, [], vv, [markD D]⟩ Q .normal) (ls (LI s path.length)) (upd (upd (ls (GI s path.length)) gD (.obj D emptyD)) gL (.obj l x))) :
    TCF ⟨Fence.wide, n + 2, [], vv, []⟩ Tryz.prog C (.rangeFunc (.tmp t) #[p, q] assign body) Q L Γ := ⟨open_wide, fun a w hr hf => by
  have hd0 := reps_def hr
  have h0 : Reps C (ls (LI x0 0)) (ls (GI x0 0)) a w := reps_weak id (fun _ _ e => e) hl hm hr
  have hsz : a.tmps.size = C.n := by obtain ⟨ρ, h⟩ := h0; exact h.sz
  show (Code.rangeFunc (.tmp t) #[p, q] assign body).wpIn Fence.wide (n + 2) Tryz.prog Q { a with defers := [] } w
  rw [act_def hd0]
  have hfn : ∃ v1, a.tmps.getD t undef = .func (.func 149) #[] #[v1] := by
    obtain ⟨ρ, h⟩ := h0
    have := h.slot t _ (ht x0 0)
    have this : DV.rep _ w _ _ := this
    unfold DV.rep at this
    obtain ⟨us, vs, e, h1, h2⟩ := this
    unfold repL at h1
    subst h1
    unfold repL at h2
    obtain ⟨v1, t', rfl, h3, h4⟩ := h2
    unfold repL at h4
    subst h4
    exact ⟨v1, e⟩
  obtain ⟨v1, hfn⟩ := hfn
  have hread : ∀ s k (Γ' : Ga) W, Reps C (ls (LI s k)) Γ' a W → (DV.el [slT hdv 32 path]).rep noK W v1 := fun s k Γ' W hR => by
    obtain ⟨ρ, h⟩ := hR
    have := h.slot t _ (ht s k)
    have this : DV.rep _ W _ _ := this
    unfold DV.rep at this
    obtain ⟨us, vs, e, h1, h2⟩ := this
    rw [hfn] at e
    unfold repL at h2
    obtain ⟨v2, t', rfl, h3, h4⟩ := h2
    unfold repL at h4
    subst h4
    simp only [Value.func.injEq] at e
    have e2 : v1 = v2 := by simpa using e.2.2
    rw [e2]
    exact DV.rep_mono (fun b hb hn => ⟨rfl, hb, fun x => x.elim⟩) _ _ h3
  refine wpIn_rangeFunc ?_
  intro fn hfn'
  obtain ⟨rec, hrec⟩ : ∃ rec : LoopState → Option Code → Loop, rec = fun st pe => { state := st, pending := pe, fn, tmps := a.tmps, params := #[p, q], assign, body, defers := w.heap.size } := ⟨_, rfl⟩
  have hG0 : ls (GI x0 0) gD = none := hgD x0 0
  have r1 := reps_objnew gD emptyD (hgD x0 0) h0
  have r2 := reps_objnew gL (.loop (rec .ready none)) (by rw [upd_other _ _ _ _ (Ne.symm hne)]; exact hgL x0 0) r1
  rw [World.size_alloc] at r2
  let J : Nat → World → Prop := fun k W => ∃ s, Reps C (ls (LI s k)) (upd (upd (ls (GI s k)) gD (.obj w.heap.size emptyD)) gL (.obj (w.heap.size + 1) (.loop (rec .ready none)))) a W
  have hJ0 : J 0 ((w.alloc emptyD).alloc (.loop (rec .ready none))) := ⟨x0, r2⟩
  refine ⟨w.heap.size + 1, [markD w.heap.size], (w.alloc emptyD).alloc (.loop (rec .ready none)), { target := .fn (.func 149) #[v1], args := #[.func (.yield (w.heap.size + 1)) #[] #[]] }, (w.alloc emptyD).alloc (.loop (rec .ready none)), 149, #[.func (.yield (w.heap.size + 1)) #[] #[], v1], (w.alloc emptyD).alloc (.loop (rec .ready none)), ?_, ?_, fun _ _ => trivial, ?_, fun e => (by cases e), ?_⟩
  · rw [hrec]; exact run_enterLoop_outer _ _ _ _ _
  · have e1 : a.eval (.tmp t) = .func (.func 149) #[] #[v1] := hfn
    simp only [resolve, rangeCall, e1]
    simp [go_sem]
  · simp [invoke, go_sem, callFunc_run (P := Tryz.prog) (f := 149) (by kernel_rfl)]
  · refine (back_gives n (w.heap.size + 1) path hp v1 J (fun k W W' ⟨s, h⟩ hb => ⟨s, h.elim fun ρ h => ⟨ρ, h.ext hb⟩⟩) (fun k W ⟨s, h⟩ => hread s k _ W h) (fun k hk hj W1 hJ => ?_) _ hJ0).mono ?_
    · obtain ⟨s, hR⟩ := hJ
      have hat := reps_objat (upd_same _ _ _) hR
      have hy := run_yield (P := Tryz.prog) (args := #[.int .i64 ((path.length - 1 - k : Nat) : Int), hashV (H.l path[path.length - 1 - k])]) hat (by rw [hrec]; rfl)
      rw [hrec] at hy
      refine ⟨fn, _, assign, body, hy, roundIn_of_wpIn hfn' ?_⟩
      have hpl : p < a.tmps.size := by rw [hsz]; simpa using hpn
      have hql : q < a.tmps.size := by rw [hsz]; simpa using hqn
      let ar : Act := { tmps := (a.tmps.setIfInBounds p (.int .i64 ((path.length - 1 - k : Nat) : Int))).setIfInBounds q (hashV (H.l path[path.length - 1 - k])), defers := [] }
      have hoff : ∀ x, x ≠ p → x ≠ q → ar.tmps.getD x undef = a.tmps.getD x undef := fun x h1 h2 => by
        show ((a.tmps.setIfInBounds p _).setIfInBounds q _).getD x undef = _
        rw [Array.getD_eq_getD_getElem?, Array.getElem?_setIfInBounds_ne (Ne.symm h2), Array.getElem?_setIfInBounds_ne (Ne.symm h1), ← Array.getD_eq_getD_getElem?]
      have hTne : ∀ x ∈ T, x ≠ p ∧ x ≠ q := fun x hx => ⟨fun e => (by subst e; rw [mem_iff.2 hx] at hpT; cases hpT), fun e => (by subst e; rw [mem_iff.2 hx] at hqT; cases hqT)⟩
      have hRr : Reps C (upd (upd (ls (LI s k)) p (.f (.v (.int .i64 ((path.length - 1 - k : Nat) : Int))))) q (.f (.ag (hdv path[path.length - 1 - k])))) (upd (upd (ls (GI s k)) gD (.obj w.heap.size emptyD)) gL (.obj (w.heap.size + 1) (.loop (rec .ready none)))) ar W1 := by
        have h1 := reps_act (a' := ar) hR rfl (by show ((a.tmps.setIfInBounds p _).setIfInBounds q _).size = _; simp [hsz]) (fun x X hX => hoff x (hTne x (hT s k x X hX)).1 (hTne x (hT s k x X hX)).2)
        obtain ⟨ρ, h1⟩ := h1
        have hvp : ar.tmps.getD p undef = .int .i64 ((path.length - 1 - k : Nat) : Int) := by
          show ((a.tmps.setIfInBounds p _).setIfInBounds q _).getD p undef = _
          rw [Array.getD_eq_getD_getElem?, Array.getElem?_setIfInBounds_ne (Ne.symm hpq)]
          simp [hpl]
        have hvq : ar.tmps.getD q undef = hashV (H.l path[path.length - 1 - k]) := by
          show ((a.tmps.setIfInBounds p _).setIfInBounds q _).getD q undef = _
          rw [Array.getD_eq_getD_getElem?]
          simp [hql]
        refine ⟨ρ, (h1.tell p (.f (.v (.int .i64 ((path.length - 1 - k : Nat) : Int)))) ?_ (fun g hg => by simp [AV.id] at hg)).tell q _ ?_ (fun g hg => by simp [AV.id] at hg)⟩
        · rw [hvp]; show DV.rep _ _ _ _; unfold DV.rep; rfl
        · rw [hvq]
          have e := hash_rep (K := fun b => KK C.K0 ρ (upd (upd (ls (GI s k)) gD (.obj w.heap.size emptyD)) gL (.obj (w.heap.size + 1) (.loop (rec .ready none)))) b ∨ b < C.w0.heap.size) (w := W1) (l := H.l path[path.length - 1 - k]) (H.l_len _)
          rw [ofL_H] at e
          exact e
      have hat2 : ∀ {L' : Lo} {Γ' : Ga} {a1 : Act} {w1 : World}, Γ' gL = some (.obj (w.heap.size + 1) (.loop (rec .ready none))) → Reps C L' Γ' a1 w1 → (Instr.beginRound (w.heap.size + 1)).run Tryz.prog w1 = .ok () (w1.putObj (w.heap.size + 1) (.loop { rec .ready none with state := .busy })) := fun hΓ h => run_beginRound (reps_objat hΓ h) (by rw [hrec])
      have main := round (Fence.wide.inRound (w.heap.size + 1)) (fun t => a.tmps.getD t undef) (fun a₁ w₁ => ∃ w₂, (Instr.beginRound (w.heap.size + 1)).run Tryz.prog w₁ = .ok () w₂ ∧ body.wpIn (Fence.wide.inRound (w.heap.size + 1)) n Tryz.prog (roundPost Tryz.prog (w.heap.size + 1) fun e W' => e = .returned (.bool true) ∧ J (k + 1) W') a₁ w₂)
        (roundPost Tryz.prog (w.heap.size + 1) fun e W' => e = .returned (.bool true) ∧ J (k + 1) W') (.obj w.heap.size emptyD) (.obj (w.heap.size + 1) (.loop (rec .ready none))) (.obj (w.heap.size + 1) (.loop { rec .ready none with state := .busy })) s k hk hj (open_round _)
      have main := main (fun s' a3 W3 h3 => ⟨reps_def h3, fun f3 => by
          have hb3 := reps_objat (upd_same _ _ _) h3
          have he3 := run_endRound (P := Tryz.prog) none hb3
          refine ⟨_, _, he3, rfl, s', ?_⟩
          have h4 := reps_objput (.loop { { rec .ready none with state := .busy } with state := .ready, pending := none }) rfl rfl (upd_same _ _ _) h3
          rw [upd_upd] at h4
          have e5 : (Obj.loop { { rec .ready none with state := .busy } with state := .ready, pending := none }) = .loop (rec .ready none) := by rw [hrec]
          rw [e5] at h4
          refine reps_act (a := a3) ?_ hd0 hsz (fun x X hX => (f3 x (hT s' (k + 1) x X hX)).symm)
          show Reps C _ _ a3 (W3.putObj (w.heap.size + 1) (.loop { { rec .ready none with state := .busy } with state := (if (none : Option Code).isNone then .ready else .done), pending := none }))
          exact e5 ▸ h4⟩)
        (fun L' Γ' hΓ hbody a1 w1 h1 f1 => ⟨_, hat2 hΓ h1, by
          have := hbody.2 a1 _ (reps_objput (.loop { rec .ready none with state := .busy }) rfl rfl hΓ h1) f1
          exact this⟩)
      have fin := main.2 ar W1 hRr (fun x hx => hoff x (hTne x hx).1 (hTne x hx).2)
      have ef : (((#[p, q] : Array Nat).zip #[Value.int .i64 ((path.length - 1 - k : Nat) : Int), hashV (H.l path[path.length - 1 - k])]).foldl (fun tmps (t, a) => tmps.setIfInBounds t a) a.tmps) = ar.tmps := by simp [ar]
      dsimp only
      rw [ef]
      exact fin
    · rintro e W2 ⟨⟨v, rfl⟩, s, h2⟩
      have hat := reps_objat (upd_same _ _ _) h2
      refine ⟨none, _, by have := run_endLoop (P := Tryz.prog) hat (by rw [hrec]; simp); rw [hrec] at this; exact this, ?_⟩
      have h3 := reps_objput (.loop { rec .ready none with state := .exhausted }) rfl rfl (upd_same _ _ _) h2
      rw [upd_upd] at h3
      have := (done w.heap.size (w.heap.size + 1) _ s a _ h3).2 (fun x hx => by cases hx)
      have e6 : ({ a with defers := [markD w.heap.size] ++ a.defers } : Act) = { a with defers := [markD w.heap.size] } := by rw [hd0]; rfl
      show Q .normal { a with defers := [markD w.heap.size] ++ a.defers } _
      rw [e6]
      rw [hrec] at this
      exact this⟩
/-- The end of a function that held a range over a function. -/
theorem TE.leaveF {P : Program} {C : Cx} {L : Lo} {Γ : Ga} {fn : Func} {R : Ending → World → Prop} {n gD D : Nat} {vv : Nat → Value} (hΓ : Γ gD = some (.obj D emptyD)) (h : TE C (bodyPost P fn R .ret) L (upd Γ gD (.obj D (.deferred none)))) : TE C (fun a w => Fr ⟨Fence.wide, n, [], vv, [markD D]⟩ a → bodyPostM Fence.wide n P fn R .ret { a with defers := [markD D] } w) L Γ := fun a w hr _ => by
  have hat := reps_objat hΓ hr
  have h2 := h a _ (reps_objput (.deferred none) rfl rfl hΓ hr)
  obtain ⟨_, v, h3, h4⟩ := h2
  show LeavesInM Fence.wide n P fn a.tmps R [markD D] .returning w
  refine ⟨by simp, .inl ⟨D, _, rfl, run_takeDeferred hat, ?_⟩⟩
  show LeavesIn Fence.wide n P fn a.tmps R [] .returning _
  exact ⟨v, h3, h4⟩
end Go.Proofs.YtdjcclcejmeheaaGreat

