/-
  A logic of walks: calls by contract; literals of slices; conversions; copy.
-/
import Derived.Test.YthbcbfghfhecjaaPg
namespace Go.Proofs.Ythbcbfghfhecjaa.Pl
set_option linter.unusedVariables false
set_option linter.unusedSimpArgs false
open Go.RowKit

/-! Contracts. -/
/-- Of closed data; the result is new, or has no parts. -/
def PF (P : Program) (f : FuncId) (Xs : List DV) (Y : DV) : Prop := ∀ w us, repL noK w Xs us → Calls P f us.toArray w fun e w' => ∃ u, e = .returned u ∧ Below w.heap.size w w' ∧ ∀ K, (∀ b, K b → b < w.heap.size) → Y.rep K w' u
/-- Of closed data; the result may have parts in common with the arguments. -/
def PC (P : Program) (f : FuncId) (Xs : List DV) (Y : DV) : Prop := ∀ w K us, (∀ b, K b → b < w.heap.size) → repL K w Xs us → Calls P f us.toArray w fun e w' => ∃ u, e = .returned u ∧ Below w.heap.size w w' ∧ Y.rep K w' u
/-- The result is a row of one's own. -/
def PO (P : Program) (f : FuncId) (Xs : List DV) (e sz n : Nat) (cs : List DV) : Prop := ∀ w us, repL noK w Xs us → Calls P f us.toArray w fun r w' => ∃ u vs, r = .returned u ∧ Below w.heap.size w w' ∧ w'.ownsRow w.heap.size e sz u n vs ∧ (∀ x ∈ vs, x.oneCell' = true) ∧ ∀ K, (∀ b, K b → b < w.heap.size ∨ u.ownBlock = some b) → repL K w' cs vs
theorem PF.pc {P : Program} {f : FuncId} {Xs : List DV} {Y : DV} (h : PF P f Xs Y) : PC P f Xs Y := fun w K us hK hr =>
  (h w us (repL_mono (fun b hb _ => ⟨rfl, hb, fun x => x⟩) _ _ hr)).mono fun e w' ⟨u, h1, h2, h3⟩ => ⟨u, h1, h2, h3 K hK⟩
theorem PO.pf {P : Program} {f : FuncId} {Xs : List DV} {e sz n : Nat} {cs : List DV} (h : PO P f Xs e sz n cs) : PF P f Xs (.sl sz n cs) := fun w us hr =>
  (h w us hr).mono fun r w' ⟨u, vs, h1, h2, h3, h4, h5⟩ => ⟨u, h1, h2, fun K hK => by
    have hK' := fun b hb => Or.inl (b := u.ownBlock = some b) (hK b hb)
    have hl := repL_length (h5 K hK')
    unfold DV.rep
    rcases h3.2 with ⟨rfl, rfl⟩ | ⟨g, cap, cur, rfl, hb, hg, hnc, hcm, hcs, htake⟩
    · exact .inl ⟨rfl, rfl, List.eq_nil_of_length_eq_zero (by rw [← hl, h3.1]; simp)⟩
    · refine .inr ⟨g, 0, cap, rfl, hnc, hcm, by rw [← hl, h3.1], .inr ⟨(Array.getElem?_eq_some_iff.1 hg).1, fun x => by have := hK g x; omega⟩, repAt_of_cells (h5 K hK') (fun j u hj => ?_) h4⟩
      have := World.ownsRow.cells h3 (g := g) rfl j u hj
      rwa [addr_add] at this⟩
def cfn (P : Program) (f : FuncId) : Bool := match P.funcs[f]? with
  | some fn => !(fn.name == "runtime.NumGoroutine") && fn.body.isSome
  | none => false
theorem callFunc_run {P : Program} {f : FuncId} (h : cfn P f = true) (args : Array Value) (w : World) : (callFunc f args).run P w = .ok (.enter f args) w := by
  unfold cfn at h
  cases hf : P.funcs[f]? with
  | none => simp [hf] at h
  | some fn =>
    simp only [hf, Bool.and_eq_true, Bool.not_eq_true'] at h
    have hb : fn.body ≠ none := by intro e; simp [e] at h
    have hn : ¬ fn.name = "runtime.NumGoroutine" := by simpa using h.1
    simp [callFunc, hf, hn, hb]
def evR (L : Lo) (Γ : Ga) : List Operand → Option (List DV)
  | [] => some []
  | x :: r => match (ev L x).bind (rdv Γ), evR L Γ r with
    | some X, some l => some (X :: l)
    | _, _ => none
def okR (L : Lo) (Γ : Ga) : List Operand → Prop
  | [] => True
  | x :: r => (match ev L x with | some (.ow g n sz) => okr Γ (.ow g n sz) | _ => True) ∧ okR L Γ r
def evD (L : Lo) : List Operand → Option (List DV)
  | [] => some []
  | x :: r => match evd L x, evD L r with
    | some X, some l => some (X :: l)
    | _, _ => none
section
variable {P : Program} {C : Cx} {L : Lo} {Γ : Ga} {d : Nat} {ty : TypeId} {pos : String} {af : Array Edge} {gd : Option (Nat × Bool)}
theorem evR_rep {ρ : Rho} {a : Act} {w : World} (h : RepsAt C ρ L Γ a w) : ∀ {xs : List Operand} {Xs : List DV}, evR L Γ xs = some Xs → okR L Γ xs → repL noK w Xs (xs.map a.eval)
  | [], Xs, hx, _ => by simp only [evR, Option.some.injEq] at hx; subst hx; simp [repL]
  | x :: r, Xs, hx, hok => by
    unfold evR at hx
    cases h0 : ev L x with
    | none => simp [h0] at hx
    | some A =>
      cases h1 : rdv Γ A with
      | none => simp [h0, h1] at hx
      | some X =>
        cases h2 : evR L Γ r with
        | none => simp [h0, h1, h2] at hx
        | some l =>
          simp only [h0, Option.bind_some, h1, h2, Option.some.injEq] at hx
          subst hx
          unfold okR at hok
          rw [List.map_cons]
          unfold repL
          refine ⟨_, _, rfl, evr_rep h h0 h1 ?_, evR_rep h h2 hok.2⟩
          have := hok.1
          rw [h0] at this
          cases A <;> first | exact this | trivial
theorem evD_rep {ρ : Rho} {a : Act} {w : World} (h : RepsAt C ρ L Γ a w) : ∀ {xs : List Operand} {Xs : List DV}, evD L xs = some Xs → repL (KK C.K0 ρ Γ) w Xs (xs.map a.eval)
  | [], Xs, hx => by simp only [evD, Option.some.injEq] at hx; subst hx; simp [repL]
  | x :: r, Xs, hx => by
    unfold evD at hx
    cases h1 : evd L x with
    | none => simp [h1] at hx
    | some X =>
      cases h2 : evD L r with
      | none => simp [h1, h2] at hx
      | some l =>
        simp only [h1, h2, Option.some.injEq] at hx
        subst hx
        rw [List.map_cons]
        unfold repL
        exact ⟨_, _, rfl, evd_rep h h1, evD_rep h h2⟩
theorem call_run {f : FuncId} (hf : cfn P f = true) (xs : List Operand) (at_ : Array TypeId) (a : Act) (w : World) (d : Option Nat) : (execOp a.eval ⟨d, .call { callee := .value (.func f), args := xs.toArray, argTypes := at_ }, ty, pos, af, gd⟩).run P w = .ok (.enter f (xs.map a.eval).toArray) w := by
  have : a.eval (.func f) = .func (.func f) #[] #[] := rfl
  simp [execOp, resolve, this, Deferred.ofValue, invoke, callFunc_run hf]
theorem kk_lt {ρ : Rho} {a : Act} {w : World} (h : RepsAt C ρ L Γ a w) (b : Nat) (hb : KK C.K0 ρ Γ b ∨ b < C.w0.heap.size) : b < w.heap.size := by
  rcases hb with (hb | ⟨g, _, hb⟩) | hb
  · exact Nat.lt_of_lt_of_le (h.k0 b hb).1 h.fr.size
  · exact h.lt g b hb
  · exact Nat.lt_of_lt_of_le hb h.fr.size
theorem OT.callf {f : FuncId} {xs : List Operand} {at_ : Array TypeId} {Xs : List DV} {Y : DV} (hn : Nat.blt d C.n = true) (hf : cfn P f = true) (hx : evR L Γ xs = some Xs) (hok : okR L Γ xs) (hc : PF P f Xs Y) :
    OT P C ⟨some d, .call { callee := .value (.func f), args := xs.toArray, argTypes := at_ }, ty, pos, af, gd⟩ L Γ (upd L d (.f Y)) Γ := by
  rintro a w ⟨ρ, h⟩
  unfold Oper.wp
  rw [call_run hf, Oper.upon_enter]
  refine (hc w _ (evR_rep h hx hok)).mono ?_
  rintro e w' ⟨u, rfl, hb, hY⟩
  exact ⟨ρ, (h.ext hb).put (by simpa using hn) (hY _ fun b hb => kk_lt h b hb) (fun g hg => by simp [AV.id] at hg)⟩
theorem OT.callc {f : FuncId} {xs : List Operand} {at_ : Array TypeId} {Xs : List DV} {Y : DV} (hn : Nat.blt d C.n = true) (hf : cfn P f = true) (hx : evD L xs = some Xs) (hc : PC P f Xs Y) :
    OT P C ⟨some d, .call { callee := .value (.func f), args := xs.toArray, argTypes := at_ }, ty, pos, af, gd⟩ L Γ (upd L d (.d Y)) Γ := by
  rintro a w ⟨ρ, h⟩
  unfold Oper.wp
  rw [call_run hf, Oper.upon_enter]
  refine (hc w _ _ (fun b hb => kk_lt h b (.inl hb)) (evD_rep h hx)).mono ?_
  rintro e w' ⟨u, rfl, hb, hY⟩
  exact ⟨ρ, (h.ext hb).put (by simpa using hn) hY (fun g hg => by simp [AV.id] at hg)⟩
theorem OT.callo {f : FuncId} {xs : List Operand} {at_ : Array TypeId} {Xs : List DV} {e sz n : Nat} {cs : List DV} (g : Nat) (hn : Nat.blt d C.n = true) (hg : Γ g = none) (hf : cfn P f = true) (hx : evR L Γ xs = some Xs) (hok : okR L Γ xs) (hc : PO P f Xs e sz n cs) :
    OT P C ⟨some d, .call { callee := .value (.func f), args := xs.toArray, argTypes := at_ }, ty, pos, af, gd⟩ L Γ (upd L d (.ow g n sz)) (upd Γ g (.row e sz cs)) := by
  rintro a w ⟨ρ, h⟩
  unfold Oper.wp
  rw [call_run hf, Oper.upon_enter]
  refine (hc w _ (evR_rep h hx hok)).mono ?_
  rintro r w' ⟨u, vs, rfl, hb, ho, h1, hY⟩
  have hlt := owns_lt ho
  have hge : ∀ b, u.ownBlock = some b → w.heap.size ≤ b := fun b hb => (World.ownsRow.lt ho b hb).1
  have hgr : w.grownBy w' none := ⟨hb.os, hb.tape, hb.output, hb.size, fun k hk _ => hb.block k hk⟩
  obtain ⟨ρ', hr, hρ', hk⟩ := h.gain (g := g) (ob := none) (ob' := u.ownBlock) (o' := .row e sz cs) (w' := w') (Γ1 := Γ) hg (fun _ _ h _ => h) (fun _ h => h) (fun b g' e => by cases e) (fun b e => by cases e) hgr
    (fun b eb => ⟨.inr (hge b eb), hlt b eb⟩) (by simp) rfl
    (fun K hK hb => (owns_row (K := K) ho (hY K hb) h1).1)
  refine ⟨ρ', hr.put (by simpa using hn) (fun ob' hob => ?_) (fun g1 hg1 => ?_)⟩
  · rw [hρ'] at hob; cases hob
    exact (owns_row (K := noK) ho (hY noK (fun b hb => hb.elim)) h1).2
  · cases hg1; rw [upd_same]; simp
end
end Go.Proofs.Ythbcbfghfhecjaa.Pl
