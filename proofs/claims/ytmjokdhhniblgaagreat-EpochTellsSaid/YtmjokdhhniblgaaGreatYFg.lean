import Derived.Test.YtmjokdhhniblgaaGreatYPy
import Derived.Test.YtmjokdhhniblgaaGreatYQ3
/-
  A logic of walks: a range over a function: the loop's record as an object, rounds, the end of a function that held one.
-/
namespace Go.Proofs.YtmjokdhhniblgaaGreat.Pl
set_option linter.unusedVariables false
set_option linter.unusedSimpArgs false
open Go.RowKit
section
variable {P : Program} {C : Cx} {M : Fm} {Q : Exit → Act → World → Prop} {L : Lo} {Γ : Ga} {a : Act} {w : World}
theorem TCF.map {c : Code} {L' : Lo} {Γ' : Ga} (h : ∀ a w, Reps C L Γ a w → Reps C L' Γ' a w) (k : TCF M P C c Q L' Γ') : TCF M P C c Q L Γ := ⟨k.1, fun a w hr hf => k.2 a w (h a w hr) hf⟩
end
end Go.Proofs.YtmjokdhhniblgaaGreat.Pl
/-
  A logic of walks: a piece of code walked as if it were a call: boxes of one's own are read in it as data, what it makes is new.
-/
namespace Go.Proofs.YtmjokdhhniblgaaGreat.Pl
set_option linter.unusedVariables false
set_option linter.unusedSimpArgs false
open Go.RowKit
/-- A slot that reads as data, if it be an address in a box of one's own. -/
def rdp (Γ : Ga) : AV → Option DV
  | .ptr g off => (Γ g).bind fun o => o.cells.map fun cs => .el (cs.drop off)
  | .d X => some X
  | .f X => some X
  | _ => none
def argsR (L : Lo) (Γ : Ga) : List (Nat × DV) → Prop
  | [] => True
  | (t, X) :: r => ((L t).bind (rdp Γ) = some X) ∧ argsR L Γ r
def QSub (P0 : Act → World → Prop) : Exit → Act → World → Prop
  | .normal, a, w => P0 a w
  | _, _, _ => False
section
variable {P : Program} {C : Cx} {Q : Exit → Act → World → Prop} {L : Lo} {Γ : Ga}
theorem rdp_rep {ρ : Rho} {a : Act} {w : World} (h : RepsAt C ρ L Γ a w) {t : Nat} {X : DV} (ht : (L t).bind (rdp Γ) = some X) : X.rep noK w (a.tmps.getD t undef) := by
  cases hL : L t with
  | none => rw [hL] at ht; cases ht
  | some A =>
    rw [hL] at ht
    simp only [Option.bind_some] at ht
    have hs := h.slot t A hL
    cases A with
    | d Y => simp only [rdp, Option.some.injEq] at ht; subst ht; exact DV.rep_mono (fun b hb hn => ⟨rfl, hb, fun x => x.elim⟩) _ _ hs
    | f Y => simp only [rdp, Option.some.injEq] at ht; subst ht; exact DV.rep_mono (fun b hb hn => ⟨rfl, hb, fun x => x.elim⟩) _ _ hs
    | bs g o n s => cases ht
    | ow g n s => cases ht
    | ptr g off =>
      simp only [rdp] at ht
      cases hg : Γ g with
      | none => rw [hg] at ht; cases ht
      | some o =>
        rw [hg] at ht
        simp only [Option.bind_some] at ht
        cases hc : o.cells with
        | none => rw [hc] at ht; cases ht
        | some cs =>
          rw [hc] at ht
          simp only [Option.map_some, Option.some.injEq] at ht
          subst ht
          have hd : o ≠ .dead := by rintro rfl; simp [AO.cells] at hc
          obtain ⟨ob, h1, h2⟩ := h.obj g o hg hd
          obtain ⟨b, rfl, hu⟩ := hs ob h1
          unfold DV.rep
          have hat := own_cells h hg hc h1
          refine ⟨b, off, hu, .inr ⟨h.lt g b h1, fun x => x.elim⟩, ?_⟩
          have := repAt_drop off hat
          rw [Nat.zero_add] at this
          obtain ⟨us, q1, q2, q3⟩ := repAt_vals this
          exact repAt_of_cells (repL_mono (fun b hb hn => ⟨rfl, hb, fun x => x.elim⟩) _ _ q1) q2 q3
theorem ls_in {α : Type} : ∀ {l : List (Nat × α)} {t : Nat} {X : α}, ls l t = some X → t ∈ l.map (·.1)
  | [], t, X, h => by cases h
  | (s, v) :: r, t, X, h => by
    simp only [ls] at h
    cases hb : Nat.beq t s with
    | true => rw [Nat.beq_eq] at hb; subst hb; simp
    | false =>
      rw [hb] at h
      simp only [cond_false] at h
      exact List.mem_cons_of_mem _ (ls_in h)
theorem argsR_get {ρ : Rho} {a : Act} {w : World} (h : RepsAt C ρ L Γ a w) : ∀ {args : List (Nat × DV)} {t : Nat} {A : AV}, argsR L Γ args → ls (args.map fun x => (x.1, AV.d x.2)) t = some A → ∃ X, A = .d X ∧ X.rep noK w (a.tmps.getD t undef)
  | [], t, A, _, ht => by cases ht
  | (s, X) :: r, t, A, ha, ht => by
    simp only [List.map_cons, ls] at ht
    cases hb : Nat.beq t s with
    | true =>
      rw [hb] at ht
      rw [Nat.beq_eq] at hb; subst hb
      simp only [cond_true, Option.some.injEq] at ht
      exact ⟨X, ht.symm, rdp_rep h ha.1⟩
    | false =>
      rw [hb] at ht
      simp only [cond_false] at ht
      exact argsR_get h ha.2 ht
/-- What a piece of code leaves: the slot's new value, the kept slots as they were, old blocks as they were. -/
def subPost (w0 : World) (n d : Nat) (Y : DV) (us : Nat → Value) (keepT : List Nat) (a : Act) (w : World) : Prop := a.defers = [] ∧ a.tmps.size = n ∧ Below w0.heap.size w0 w ∧ (∀ K, (∀ b, K b → b < w0.heap.size) → Y.rep K w (a.tmps.getD d undef)) ∧ ∀ t ∈ keepT, a.tmps.getD t undef = us t
theorem wp_qsub {c : Code} {P0 : Act → World → Prop} {a : Act} {w : World} (h : c.wp P (QSub P0) a w) (hq : ∀ a w, P0 a w → Q .normal a w) : c.wp P Q a w := fun b k cs => by
  obtain ⟨e, a', w', h1, h2⟩ := h b k cs
  cases e with
  | normal => exact ⟨_, a', w', hq _ _ h1, h2⟩
  | _ => exact h1.elim
theorem TC.sub {c : Code} (args : List (Nat × DV)) (keep : List (Nat × AV)) (d : Nat) (Y : DV) (hd : Nat.blt d C.n = true) (ha : argsR L Γ args) (hk : allL id L Γ keep) (hwalk : ∀ (w0 : World) (us : Nat → Value), TCF ⟨Fence.wide, 5, keep.map (·.1), us, []⟩ P ⟨w0, noK, C.n, noM⟩ c (QSub (subPost w0 C.n d Y us (keep.map (·.1)))) (ls (args.map fun x => (x.1, AV.d x.2))) (fun _ => none)) (hnext : TE C (Q .normal) (upd (ls keep) d (.f Y)) Γ) : TC P C c Q L Γ := fun a w ⟨ρ, h⟩ => by
  have hr : Reps ⟨w, noK, C.n, noM⟩ (ls (args.map fun x => (x.1, AV.d x.2))) (fun _ => none) a w := by
    refine ⟨fun _ => none, h.df, h.sz, fun b hb => hb.elim, Kept.refl _ _, fun _ _ => rfl, fun t X g ht hg => ?_, fun _ _ h => (by cases h), fun _ _ _ h => (by cases h), fun _ _ _ h => (by cases h), fun _ _ _ _ h => (by cases h), fun _ _ h => (by cases h), fun t X ht => ?_⟩
    · obtain ⟨Z, rfl, _⟩ := argsR_get h ha ht
      simp [AV.id] at hg
    · obtain ⟨Z, rfl, hz⟩ := argsR_get h ha ht
      show DV.rep _ _ _ _
      exact DV.rep_mono (fun b hb hn => ⟨rfl, hb, fun x => x.elim id fun ⟨g, ⟨o, q, _⟩, _⟩ => by cases q⟩) _ _ hz
  have hw := (hwalk w (fun t => a.tmps.getD t undef)).2 a w hr (fun t ht => rfl)
  have hw : c.wpIn Fence.wide 5 P (QSub (subPost w C.n d Y (fun t => a.tmps.getD t undef) (keep.map (·.1)))) { a with defers := [] } w := hw
  rw [show ({ a with defers := [] } : Act) = a from by have := h.df; cases a; simp at this; subst this; rfl] at hw
  refine wp_qsub (wpIn_wide.1 hw) fun a' w' ⟨q1, q2, q3, q4, q5⟩ => ?_
  have h' := h.ext q3
  have hkeep : ∀ t X, ls keep t = some X → L t = some X ∧ okid Γ X = true := fun t X ht => by
    have := allL_get (σ := id) (L := L) hk ht
    refine ⟨?_, this.2⟩
    rw [this.1]
    cases X <;> rfl
  have hR : RepsAt C ρ (ls keep) Γ a' w' := by
    refine ⟨q1, q2, h'.k0, h'.fr, h'.dom, fun t X g ht hg => h'.ment t X g (hkeep t X ht).1 hg, h'.lt, h'.inj, h'.new, h'.len, h'.obj, fun t X ht => ?_⟩
    rw [q5 t (by
      have := ls_in ht
      exact this)]
    exact h'.slot t X (hkeep t X ht).1
  exact hnext a' w' ⟨ρ, hR.tell d _ (q4 _ fun b hb => kk_lt h b hb) (fun g hg => by simp [AV.id] at hg)⟩
end
end Go.Proofs.YtmjokdhhniblgaaGreat.Pl
/-
  A logic of walks: appends to a named row; a drawn region whose last operation stands behind all others.
-/
namespace Go.Proofs.YtmjokdhhniblgaaGreat.Pl
set_option linter.unusedVariables false
set_option linter.unusedSimpArgs false
open Go.RowKit
section
variable {P : Program} {C : Cx} {L : Lo} {Γ : Ga} {d : Nat} {ty : TypeId} {pos : String} {af : Array Edge} {gd : Option (Nat × Bool)}
end
section
variable {P : Program} {C : Cx} {Q : Exit → Act → World → Prop} {L : Lo} {Γ : Ga}
section
variable {l : List Oper} {last : Oper}
end
end
end Go.Proofs.YtmjokdhhniblgaaGreat.Pl
/-
  A logic of walks: copies into a box; nil checks; calls that hand back a new box.
-/
namespace Go.Proofs.YtmjokdhhniblgaaGreat.Pl
set_option linter.unusedVariables false
set_option linter.unusedSimpArgs false
open Go.RowKit
section
variable {P : Program} {C : Cx} {L : Lo} {Γ : Ga} {d : Nat} {ty : TypeId} {pos : String} {af : Array Edge} {gd : Option (Nat × Bool)}
end
/-- A contract of a call that hands back a new box. -/
def PB (P : Program) (f : FuncId) (Xs : List DV) (T : TypeId) (cs : List DV) : Prop := ∀ w us, repL noK w Xs us → Calls P f us.toArray w fun r w' => ∃ b vs, r = .returned (.pointer (some ⟨b, 0, none⟩)) ∧ Below w.heap.size w w' ∧ w.heap.size ≤ b ∧ w'.heap[b]? = some (.cells vs.toArray T (0, 0)) ∧ (∀ u ∈ vs, u.oneCell' = true) ∧ ∀ K, (∀ b', K b' → b' < w.heap.size ∨ b' = b) → repL K w' cs vs
theorem PB.enter {P : Program} {f : FuncId} {fn : Func} {c : Code} {Xs : List DV} {T : TypeId} {cs : List DV} (hf : P.funcs[f]? = some fn) (hb : fn.body = some c) {nt : Nat} (hnt : fn.ntmps = nt) (hn : Nat.ble Xs.length nt = true)
    (h : ∀ w, TC P ⟨w, noK, nt, noM⟩ c (bodyPost P fn fun r w' => ∃ b vs, r = .returned (.pointer (some ⟨b, 0, none⟩)) ∧ Below w.heap.size w w' ∧ w.heap.size ≤ b ∧ w'.heap[b]? = some (.cells vs.toArray T (0, 0)) ∧ (∀ u ∈ vs, u.oneCell' = true) ∧ ∀ K, (∀ b', K b' → b' < w.heap.size ∨ b' = b) → repL K w' cs vs) (argL Xs) (fun _ => none)) : PB P f Xs T cs := fun w us hr =>
  calls_enter hf hb hnt (by simpa using hn) (fun b hb => hb.elim) hr (h w)
section
variable {P : Program} {C : Cx} {L : Lo} {Γ : Ga} {ty : TypeId} {pos : String} {af : Array Edge} {gd : Option (Nat × Bool)}
end
section
variable {P : Program} {C : Cx} {L : Lo} {Γ : Ga}
end
end Go.Proofs.YtmjokdhhniblgaaGreat.Pl
/-
  Readers: what a call of Raw leaves; Clone and Word as contracts of data.
-/
namespace Go.Proofs.YtmjokdhhniblgaaGreat
set_option linter.unusedVariables false
set_option linter.unusedSimpArgs false
open Go.RowKit Pl
theorem po_own1 {P : Program} {f : FuncId} {X : DV} {l : List UInt8} (hc : ∀ w v, X.rep noK w v → Calls P f #[v] w (GivesOwn w l)) : PO P f [X] 5 1 l.length (l.flatMap bdv) := fun w us hr => by
  unfold repL at hr
  obtain ⟨v, t, rfl, r1, hr⟩ := hr
  unfold repL at hr; subst hr
  exact (hc w v r1).mono fun e w' ⟨v, h1, h2, h3⟩ => ⟨v, bvs l, h1, h3, h2, bvs_one l, fun K _ => repL_u8 l⟩
theorem join_pf (ls : List (List UInt8)) (hl : totalLen ls ≤ 1099511627776) (hn : ls.length ≤ 1099511627776) : PF Tryz.prog 65 [slT ldv 1 ls] (slT bdv 1 ls.flatten) := (po_own1 fun w v hv => join_any v ls w (rdl_of_rep hv) hl hn).pf
end Go.Proofs.YtmjokdhhniblgaaGreat

