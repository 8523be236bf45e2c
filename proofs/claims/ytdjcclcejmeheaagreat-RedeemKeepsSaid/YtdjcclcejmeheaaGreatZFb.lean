import Derived.Test.YtdjcclcejmeheaaGreatZPy
/-
  A logic of walks: a range over a function: the loop's record as an object, rounds, the end of a function that held one.
-/
namespace Go.Proofs.YtdjcclcejmeheaaGreat.Pl
set_option linter.unusedVariables false
set_option linter.unusedSimpArgs false
open Go.RowKit
section
variable {P : Program} {C : Cx} {M : Fm} {Q : Exit → Act → World → Prop} {L : Lo} {Γ : Ga} {a : Act} {w : World}
/-- An object is laid. -/
theorem reps_objnew (g : Nat) (x : Obj) (hg : Γ g = none) (h : Reps C L Γ a w) : Reps C L (upd Γ g (.obj w.heap.size x)) a (w.alloc x) := by
  obtain ⟨ρ, h⟩ := h
  obtain ⟨ρ', h', _⟩ := h.fresh (g := g) (b := w.heap.size) (o' := .obj w.heap.size x) (w' := w.alloc x) hg (grown_alloc w x) ⟨Nat.le_refl _, by simp⟩ (by simp) rfl (fun K _ _ => ⟨rfl, World.alloc_heap_new w x⟩)
  exact ⟨ρ', h'⟩
theorem reps_objat {g b : Nat} {x : Obj} (hg : Γ g = some (.obj b x)) (h : Reps C L Γ a w) : w.heap[b]? = some x := by
  obtain ⟨ρ, h⟩ := h
  obtain ⟨ob, _, h2⟩ := h.obj g _ hg (by simp)
  exact h2.2
def noCells : Obj → Bool
  | .cells .. => false
  | _ => true
theorem bsz_no {w : World} {b : Nat} {x : Obj} (h : w.heap[b]? = some x) (hx : noCells x = true) : bsz w b = 0 := by
  unfold bsz; rw [h]; cases x <;> first | rfl | cases hx
/-- An object is turned. -/
theorem reps_objput {g b : Nat} {x : Obj} (y : Obj) (hx : noCells x = true) (hy : noCells y = true) (hg : Γ g = some (.obj b x)) (h : Reps C L Γ a w) : Reps C L (upd Γ g (.obj b y)) a (w.putObj b y) := by
  have hat := reps_objat hg h
  obtain ⟨ρ, h⟩ := h
  obtain ⟨ob, h1, h2, h3⟩ := h.obj g _ hg (by simp)
  subst h2
  have hlt := (Array.getElem?_eq_some_iff.1 hat).1
  have hat' : (w.putObj b y).heap[b]? = some y := World.putObj_heap_same hlt
  exact ⟨ρ, h.turn ⟨_, hg, by simp⟩ h1 (grownBy_putObj' w b y) (by rw [bsz_no hat' hy, bsz_no hat hx]) (by simp) (fun o ho => by rw [hg] at ho; cases ho; rfl) ⟨rfl, hat'⟩⟩
/-- Behind the assignments to a round's variables: the record becomes busy. -/
theorem TE.midF {A : Act → World → Prop} (h : TE C (fun a w => Fr M a → A { a with defers := M.ds } w) L Γ) : TE C (QF M (Exit.then A (fun _ _ _ => False)) .normal) L Γ := fun a w hr => ⟨reps_def hr, h a w hr⟩
theorem TE.weakF {l : List (Nat × AV)} {m : List (Nat × AO)} {gD gL : Nat} {oD oL : AO} (σ : Nat → Nat) (hσ : ∀ x y, σ x = σ y → x = y) (h : TE C (QF M Q .normal) (ls l) (upd (upd (ls m) gD oD) gL oL)) (hl : allL σ L (upd (upd (ls m) gD oD) gL oL) l) (hm : allG σ Γ ((gL, oL) :: (gD, oD) :: m)) : TE C (QF M Q .normal) L Γ := fun a w hr => by
  have e : ls ((gL, oL) :: (gD, oD) :: m) = upd (upd (ls m) gD oD) gL oL := by
    funext t; simp only [ls, upd]
  rw [← e] at hl h
  exact h a w (reps_weak σ hσ hl hm hr)
theorem PF.enterF {f : FuncId} {fn : Func} {c : Code} {Xs : List DV} {Y : DV} (hf : P.funcs[f]? = some fn) (hb : fn.body = some c) {nt : Nat} (hnt : fn.ntmps = nt) (hn : Nat.ble Xs.length nt = true)
    (h : ∀ w, TCF ⟨Fence.wide, 5, [], fun _ => undef, []⟩ P ⟨w, noK, nt, noM⟩ c (bodyPostM Fence.wide 5 P fn fun e w' => ∃ u, e = .returned u ∧ Below w.heap.size w w' ∧ ∀ K, (∀ b, K b → b < w.heap.size) → Y.rep K w' u) (argL Xs) (fun _ => none)) : PF P f Xs Y := fun w us hr => by
  subst hnt
  refine callsIn_wide.1 (callsIn_of_wp_marks hf hb trivial ((h w).2 _ _ (reps_enter (fun b hb => hb.elim) hr (by simpa using hn)) (fun t ht => by cases ht)))
theorem PC.enterF {f : FuncId} {fn : Func} {c : Code} {Xs : List DV} {Y : DV} (hf : P.funcs[f]? = some fn) (hb : fn.body = some c) {nt : Nat} (hnt : fn.ntmps = nt) (hn : Nat.ble Xs.length nt = true)
    (h : ∀ w K, TCF ⟨Fence.wide, 3 + 2, [], fun _ => undef, []⟩ P ⟨w, K, nt, noM⟩ c (bodyPostM Fence.wide (3 + 2) P fn fun e w' => ∃ u, e = .returned u ∧ Below w.heap.size w w' ∧ Y.rep K w' u) (argL Xs) (fun _ => none)) : PC P f Xs Y := fun w K us hK hr => by
  subst hnt
  refine callsIn_wide.1 (callsIn_of_wp_marks hf hb trivial ((h w K).2 _ _ (reps_enter hK hr (by simpa using hn)) (fun t ht => by cases ht)))
theorem TCF.map {c : Code} {L' : Lo} {Γ' : Ga} (h : ∀ a w, Reps C L Γ a w → Reps C L' Γ' a w) (k : TCF M P C c Q L' Γ') : TCF M P C c Q L Γ := ⟨k.1, fun a w hr hf => k.2 a w (h a w hr) hf⟩
/-- A named row is lent; nothing comes back. -/
theorem OT.callmn {d : Nat} {f : FuncId} {xs : List Operand} {at_ : Array TypeId} {As : List AV} {u : Value} {n T sz : Nat} {cs cs' : List DV} {ty : TypeId} {pos : String} {af : Array Edge} {gd : Option (Nat × Bool)} (g : Nat) (hn : Nat.blt d C.n = true) (hf : cfn P f = true) (hg : Γ g = some (.nrow u n T sz cs)) (hx : evM L g xs = some As) (hc : PM P f As (.mrow 0 T sz cs) (.mrow 0 T sz cs') (.d (.tp []))) :
    OT P C ⟨some d, .call { callee := .value (.func f), args := xs.toArray, argTypes := at_ }, ty, pos, af, gd⟩ L Γ (upd L d (.d (.tp []))) (upd Γ g (.nrow u n T sz cs')) := by
  rintro a w ⟨ρ, h⟩
  obtain ⟨ob, h1, h2⟩ := h.obj g _ hg (by simp)
  unfold Oper.wp
  rw [call_run hf, Oper.upon_enter]
  let K : Nat → Prop := fun b => KK C.K0 ρ Γ b ∧ ob ≠ some b
  have hKM : KM K ob = KK C.K0 ρ Γ := by
    funext b
    refine propext ⟨?_, fun hb => ?_⟩
    · rintro (hb | hb)
      · exact hb.1
      · exact .inr ⟨g, ⟨_, hg, by simp⟩, by rw [h1, hb]⟩
    · by_cases e : ob = some b
      · exact .inr e
      · exact .inl ⟨hb, e⟩
  refine (hc w K ob _ (fun b hb => ⟨kk_lt h b (.inl hb.1), hb.2⟩) (fun b e => h.lt g b (by rw [h1, e])) (by rw [hKM]; exact nrow_row h2) (by rw [hKM]; exact evM_rep h h1 hx)).mono ?_
  rintro r w' ⟨v, rfl, hkept, ho1, hY⟩
  rw [hKM] at ho1
  have hnew : (AO.nrow u n T sz cs').rep (KK C.K0 ρ Γ) w' ob := by
    rcases h2 with ⟨rfl, rfl, rfl, rfl⟩ | ⟨b, us, c, rfl, rfl, k1, k2, k3, k4, k5, _⟩
    · rcases ho1 with ⟨_, e⟩ | ⟨b', _, _, e, _⟩
      · exact .inl ⟨rfl, rfl, rfl, e⟩
      · cases e
    · rcases ho1 with ⟨e, _⟩ | ⟨b', us', cap, e, q1, q2, q3, q4, q5, q6⟩
      · cases e
      · cases e
        have hz := hkept.msz b (h.lt g b h1)
        have hz : us'.length = us.length := by unfold bsz at hz; rw [q1, k2] at hz; simpa using hz
        exact .inr ⟨b, us', c, rfl, rfl, k1, q1, by omega, k4, q4, q5, q6⟩
  have hl := h.lent (o' := .nrow u n T sz cs') hg (by simp) h1 hkept (by simp) rfl hnew
  exact ⟨ρ, hl.put (X := .d (.tp [])) (by simpa using hn) (by
    show DV.rep _ _ _ _
    have hY : DV.rep (KM K ob) w' (.tp []) v := hY
    unfold DV.rep at hY ⊢
    obtain ⟨us, e, hus⟩ := hY
    exact ⟨us, e, by unfold repL at hus ⊢; exact hus⟩) (fun g1 hg1 => by simp [AV.id] at hg1)⟩
end
end Go.Proofs.YtdjcclcejmeheaaGreat.Pl
/-
  A logic of walks: a piece of code walked as if it were a call: boxes of one's own are read in it as data, what it makes is new.
-/
namespace Go.Proofs.YtdjcclcejmeheaaGreat.Pl
set_option linter.unusedVariables false
set_option linter.unusedSimpArgs false
open Go.RowKit
/-- A slot that reads as data, if it be an address in a box of one's own. -/
def rdp (Γ : Ga) : AV → Option DV
  | .ptr g off => (Γ g).bind fun o => o.cells.map fun cs => .el (cs.drop off)
  | .d X => some X
  | .f X => some X
  | _ => none
def argsR (L : Lo) (Γ : Ga) : List (Nat × DV) → Prop
  | [] => True
  | (t, X) :: r => ((L t).bind (rdp Γ) = some X) ∧ argsR L Γ r
def QSub (P0 : Act → World → Prop) : Exit → Act → World → Prop
  | .normal, a, w => P0 a w
  | _, _, _ => False
section
variable {P : Program} {C : Cx} {Q : Exit → Act → World → Prop} {L : Lo} {Γ : Ga}
theorem rdp_rep {ρ : Rho} {a : Act} {w : World} (h : RepsAt C ρ L Γ a w) {t : Nat} {X : DV} (ht : (L t).bind (rdp Γ) = some X) : X.rep noK w (a.tmps.getD t undef) := by
  cases hL : L t with
  | none => rw [hL] at ht; cases ht
  | some A =>
    rw [hL] at ht
    simp only [Option.bind_some] at ht
    have hs := h.slot t A hL
    cases A with
    | d Y => simp only [rdp, Option.some.injEq] at ht; subst ht; exact DV.rep_mono (fun b hb hn => ⟨rfl, hb, fun x => x.elim⟩) _ _ hs
    | f Y => simp only [rdp, Option.some.injEq] at ht; subst ht; exact DV.rep_mono (fun b hb hn => ⟨rfl, hb, fun x => x.elim⟩) _ _ hs
    | bs g o n s => cases ht
    | ow g n s => cases ht
    | ptr g off =>
      simp only [rdp] at ht
      cases hg : Γ g with
      | none => rw [hg] at ht; cases ht
      | some o =>
        rw [hg] at ht
        simp only [Option.bind_some] at ht
        cases hc : o.cells with
        | none => rw [hc] at ht; cases ht
        | some cs =>
          rw [hc] at ht
          simp only [Option.map_some, Option.some.injEq] at ht
          subst ht
          have hd : o ≠ .dead := by rintro rfl; simp [AO.cells] at hc
          obtain ⟨ob, h1, h2⟩ := h.obj g o hg hd
          obtain ⟨b, rfl, hu⟩ := hs ob h1
          unfold DV.rep
          have hat := own_cells h hg hc h1
          refine ⟨b, off, hu, .inr ⟨h.lt g b h1, fun x => x.elim⟩, ?_⟩
          have := repAt_drop off hat
          rw [Nat.zero_add] at this
          obtain ⟨us, q1, q2, q3⟩ := repAt_vals this
          exact repAt_of_cells (repL_mono (fun b hb hn => ⟨rfl, hb, fun x => x.elim⟩) _ _ q1) q2 q3
theorem ls_in {α : Type} : ∀ {l : List (Nat × α)} {t : Nat} {X : α}, ls l t = some X → t ∈ l.map (·.1)
  | [], t, X, h => by cases h
  | (s, v) :: r, t, X, h => by
    simp only [ls] at h
    cases hb : Nat.beq t s with
    | true => rw [Nat.beq_eq] at hb; subst hb; simp
    | false =>
      rw [hb] at h
      simp only [cond_false] at h
      exact List.mem_cons_of_mem _ (ls_in h)
theorem argsR_get {ρ : Rho} {a : Act} {w : World} (h : RepsAt C ρ L Γ a w) : ∀ {args : List (Nat × DV)} {t : Nat} {A : AV}, argsR L Γ args → ls (args.map fun x => (x.1, AV.d x.2)) t = some A → ∃ X, A = .d X ∧ X.rep noK w (a.tmps.getD t undef)
  | [], t, A, _, ht => by cases ht
  | (s, X) :: r, t, A, ha, ht => by
    simp only [List.map_cons, ls] at ht
    cases hb : Nat.beq t s with
    | true =>
      rw [hb] at ht
      rw [Nat.beq_eq] at hb; subst hb
      simp only [cond_true, Option.some.injEq] at ht
      exact ⟨X, ht.symm, rdp_rep h ha.1⟩
    | false =>
      rw [hb] at ht
      simp only [cond_false] at ht
      exact argsR_get h ha.2 ht
/-- What a piece of code leaves: the slot's new value, the kept slots as they were, old blocks as they were. -/
def subPost (w0 : World) (n d : Nat) (Y : DV) (us : Nat → Value) (keepT : List Nat) (a : Act) (w : World) : Prop := a.defers = [] ∧ a.tmps.size = n ∧ Below w0.heap.size w0 w ∧ (∀ K, (∀ b, K b → b < w0.heap.size) → Y.rep K w (a.tmps.getD d undef)) ∧ ∀ t ∈ keepT, a.tmps.getD t undef = us t
theorem wp_qsub {c : Code} {P0 : Act → World → Prop} {a : Act} {w : World} (h : c.wp P (QSub P0) a w) (hq : ∀ a w, P0 a w → Q .normal a w) : c.wp P Q a w := fun b k cs => by
  obtain ⟨e, a', w', h1, h2⟩ := h b k cs
  cases e with
  | normal => exact ⟨_, a', w', hq _ _ h1, h2⟩
  | _ => exact h1.elim
theorem TC.sub {c : Code} (args : List (Nat × DV)) (keep : List (Nat × AV)) (d : Nat) (Y : DV) (hd : Nat.blt d C.n = true) (ha : argsR L Γ args) (hk : allL id L Γ keep) (hwalk : ∀ (w0 : World) (us : Nat → Value), TCF ⟨Fence.wide, 5, keep.map (·.1), us, []⟩ P ⟨w0, noK, C.n, noM⟩ c (QSub (subPost w0 C.n d Y us (keep.map (·.1)))) (ls (args.map fun x => (x.1, AV.d x.2))) (fun _ => none)) (hnext : TE C (Q .normal) (upd (ls keep) d (.f Y)) Γ) : TC P C c Q L Γ := fun a w ⟨ρ, h⟩ => by
  have hr : Reps ⟨w, noK, C.n, noM⟩ (ls (args.map fun x => (x.1, AV.d x.2))) (fun _ => none) a w := by
    refine ⟨fun _ => none, h.df, h.sz, fun b hb => hb.elim, Kept.refl _ _, fun _ _ => rfl, fun t X g ht hg => ?_, fun _ _ h => (by cases h), fun _ _ _ h => (by cases h), fun _ _ _ h => (by cases h), fun _ _ _ _ h => (by cases h), fun _ _ h => (by cases h), fun t X ht => ?_⟩
    · obtain ⟨Z, rfl, _⟩ := argsR_get h ha ht
      simp [AV.id] at hg
    · obtain ⟨Z, rfl, hz⟩ := argsR_get h ha ht
      show DV.rep _ _ _ _
      exact DV.rep_mono (fun b hb hn => ⟨rfl, hb, fun x => x.elim id fun ⟨g, ⟨o, q, _⟩, _⟩ => by cases q⟩) _ _ hz
  have hw := (hwalk w (fun t => a.tmps.getD t undef)).2 a w hr (fun t ht => rfl)
  have hw : c.wpIn Fence.wide 5 P (QSub (subPost w C.n d Y (fun t => a.tmps.getD t undef) (keep.map (·.1)))) { a with defers := [] } w := hw
  rw [show ({ a with defers := [] } : Act) = a from by have := h.df; cases a; simp at this; subst this; rfl] at hw
  refine wp_qsub (wpIn_wide.1 hw) fun a' w' ⟨q1, q2, q3, q4, q5⟩ => ?_
  have h' := h.ext q3
  have hkeep : ∀ t X, ls keep t = some X → L t = some X ∧ okid Γ X = true := fun t X ht => by
    have := allL_get (σ := id) (L := L) hk ht
    refine ⟨?_, this.2⟩
    rw [this.1]
    cases X <;> rfl
  have hR : RepsAt C ρ (ls keep) Γ a' w' := by
    refine ⟨q1, q2, h'.k0, h'.fr, h'.dom, fun t X g ht hg => h'.ment t X g (hkeep t X ht).1 hg, h'.lt, h'.inj, h'.new, h'.len, h'.obj, fun t X ht => ?_⟩
    rw [q5 t (by
      have := ls_in ht
      exact this)]
    exact h'.slot t X (hkeep t X ht).1
  exact hnext a' w' ⟨ρ, hR.tell d _ (q4 _ fun b hb => kk_lt h b hb) (fun g hg => by simp [AV.id] at hg)⟩
end
end Go.Proofs.YtdjcclcejmeheaaGreat.Pl

