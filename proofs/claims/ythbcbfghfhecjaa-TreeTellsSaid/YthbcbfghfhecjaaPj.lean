/-
  A logic of walks: where a call begins and ends.
-/
import Derived.Test.YthbcbfghfhecjaaPi
namespace Go.Proofs.Ythbcbfghfhecjaa.Pl
set_option linter.unusedVariables false
set_option linter.unusedSimpArgs false
open Go.RowKit

/-- A value without parts elsewhere. -/
def Pl (X : DV) : Prop := ∀ (K K' : Nat → Prop) (w w' : World) (u : Value), X.rep K w u → X.rep K' w' u
theorem pl_v (u : Value) : Pl (.v u) := fun K K' w w' x h => by simpa [DV.rep] using h
theorem pl_list : ∀ {cs : List DV}, (∀ X ∈ cs, Pl X) → ∀ (K K' : Nat → Prop) (w w' : World) (us : List Value), repL K w cs us → repL K' w' cs us
  | [], _, K, K', w, w', us, hr => by unfold repL at hr ⊢; exact hr
  | X :: Xs, h, K, K', w, w', us, hr => by
    unfold repL at hr ⊢
    obtain ⟨u, t, rfl, h1, h2⟩ := hr
    exact ⟨u, t, rfl, h X (by simp) K K' w w' u h1, pl_list (fun Y hY => h Y (by simp [hY])) K K' w w' t h2⟩
theorem pl_ag {cs : List DV} (h : ∀ X ∈ cs, Pl X) : Pl (.ag cs) := fun K K' w w' u hr => by
  unfold DV.rep at hr ⊢
  obtain ⟨us, rfl, h1⟩ := hr
  exact ⟨us, rfl, pl_list h K K' w w' us h1⟩
theorem pl_tp {cs : List DV} (h : ∀ X ∈ cs, Pl X) : Pl (.tp cs) := fun K K' w w' u hr => by
  unfold DV.rep at hr ⊢
  obtain ⟨us, rfl, h1⟩ := hr
  exact ⟨us, rfl, pl_list h K K' w w' us h1⟩
theorem pl_map {α : Type} (f : α → Value) (l : List α) : ∀ X ∈ l.map (fun x => DV.v (f x)), Pl X := fun X hX => by
  obtain ⟨x, _, rfl⟩ := List.mem_map.1 hX; exact pl_v _
theorem pl_cons {X : DV} {cs : List DV} (h : Pl X) (k : ∀ Y ∈ cs, Pl Y) : ∀ Y ∈ X :: cs, Pl Y := fun Y hY => (List.mem_cons.1 hY).elim (fun e => e ▸ h) (k Y)
theorem pl_nil : ∀ Y ∈ ([] : List DV), Pl Y := fun Y hY => by cases hY
theorem pl_app {cs ds : List DV} (h : ∀ Y ∈ cs, Pl Y) (k : ∀ Y ∈ ds, Pl Y) : ∀ Y ∈ cs ++ ds, Pl Y := fun Y hY => (List.mem_append.1 hY).elim (h Y) (k Y)
theorem pl_flat {α : Type} {enc : α → List DV} (h : ∀ x, ∀ Y ∈ enc x, Pl Y) (xs : List α) : ∀ Y ∈ xs.flatMap enc, Pl Y := fun Y hY => by
  obtain ⟨x, _, hx⟩ := List.mem_flatMap.1 hY; exact h x Y hx
def noM : Nat → Option (Option Nat) := fun _ => none
theorem noMB {w : World} {K : Nat → Prop} {n : Nat} (b : Nat) : ¬ Cx.MB ⟨w, K, n, noM⟩ b := fun ⟨k, h⟩ => by cases h
/-- What a call's arguments are at its begin. -/
def argL (Xs : List DV) : Lo := fun t => (Xs[t]?).map .d
theorem reps_enter {w : World} {K : Nat → Prop} {n : Nat} {Xs : List DV} {us : List Value} (hK : ∀ b, K b → b < w.heap.size) (hr : repL K w Xs us) (hn : Xs.length ≤ n) :
    Reps ⟨w, K, n, noM⟩ (argL Xs) (fun _ => none) { tmps := us.toArray ++ Array.replicate (n - us.toArray.size) undef, defers := [] } w := by
  have hlen := repL_length hr
  refine ⟨fun _ => none, rfl, by simp; omega, fun b hb => ⟨hK b hb, noMB b⟩, Kept.refl _ _, fun _ _ => rfl, ?_, fun _ _ h => (by cases h), fun _ _ _ h => (by cases h), fun _ _ _ h => (by cases h), fun _ _ _ _ h => (by cases h), fun _ _ h => (by cases h), ?_⟩
  · intro t X g ht hg
    simp only [argL] at ht
    cases hx : Xs[t]? with
    | none => simp [hx] at ht
    | some Y => simp [hx] at ht; subst ht; simp [AV.id] at hg
  · intro t X ht
    simp only [argL] at ht
    cases hx : Xs[t]? with
    | none => simp [hx] at ht
    | some Y =>
      simp [hx] at ht; subst ht
      obtain ⟨u, h1, h2⟩ := repL_get hr hx
      have htl : t < us.length := (List.getElem?_eq_some_iff.1 h1).1
      have : (us.toArray ++ Array.replicate (n - us.toArray.size) undef).getD t undef = u := by
        rw [Array.getD_eq_getD_getElem?, Array.getElem?_append_left (by simpa using htl)]
        simp [h1]
      show DV.rep _ w Y _
      rw [this]
      exact DV.rep_mono (fun b hb hk => ⟨rfl, hb, fun x => hk (x.elim id fun ⟨g, _, h⟩ => by cases h)⟩) Y u h2
theorem calls_enter {P : Program} {f : FuncId} {fn : Func} {c : Code} {w : World} {K : Nat → Prop} {Xs : List DV} {us : List Value} {R : Ending → World → Prop} (hf : P.funcs[f]? = some fn) (hb : fn.body = some c) {n : Nat} (hnt : fn.ntmps = n) (hn : Xs.length ≤ n) (hK : ∀ b, K b → b < w.heap.size) (hr : repL K w Xs us)
    (h : TC P ⟨w, K, n, noM⟩ c (bodyPost P fn R) (argL Xs) (fun _ => none)) : Calls P f us.toArray w R := by
  subst hnt
  exact calls_of_wp hf hb (h _ _ (reps_enter hK hr hn))
section
variable {P : Program} {f : FuncId} {fn : Func} {c : Code} {Xs : List DV}
theorem PF.enter {Y : DV} (hf : P.funcs[f]? = some fn) (hb : fn.body = some c) {nt : Nat} (hnt : fn.ntmps = nt) (hn : Nat.ble Xs.length nt = true)
    (h : ∀ w, TC P ⟨w, noK, nt, noM⟩ c (bodyPost P fn fun e w' => ∃ u, e = .returned u ∧ Below w.heap.size w w' ∧ ∀ K, (∀ b, K b → b < w.heap.size) → Y.rep K w' u) (argL Xs) (fun _ => none)) : PF P f Xs Y := fun w us hr =>
  calls_enter hf hb hnt (by simpa using hn) (fun b hb => hb.elim) hr (h w)
theorem PC.enter {Y : DV} (hf : P.funcs[f]? = some fn) (hb : fn.body = some c) {nt : Nat} (hnt : fn.ntmps = nt) (hn : Nat.ble Xs.length nt = true)
    (h : ∀ w K, TC P ⟨w, K, nt, noM⟩ c (bodyPost P fn fun e w' => ∃ u, e = .returned u ∧ Below w.heap.size w w' ∧ Y.rep K w' u) (argL Xs) (fun _ => none)) : PC P f Xs Y := fun w K us hK hr =>
  calls_enter hf hb hnt (by simpa using hn) hK hr (h w K)
theorem PO.enter {e sz n : Nat} {cs : List DV} (hf : P.funcs[f]? = some fn) (hb : fn.body = some c) {nt : Nat} (hnt : fn.ntmps = nt) (hn : Nat.ble Xs.length nt = true)
    (h : ∀ w, TC P ⟨w, noK, nt, noM⟩ c (bodyPost P fn fun r w' => ∃ u vs, r = .returned u ∧ Below w.heap.size w w' ∧ w'.ownsRow w.heap.size e sz u n vs ∧ (∀ x ∈ vs, x.oneCell' = true) ∧ ∀ K, (∀ b, K b → b < w.heap.size ∨ u.ownBlock = some b) → repL K w' cs vs) (argL Xs) (fun _ => none)) : PO P f Xs e sz n cs := fun w us hr =>
  calls_enter hf hb hnt (by simpa using hn) (fun b hb => hb.elim) hr (h w)
end

/-! Results. -/
def resA (P : Program) (L : Lo) (Γ : Ga) : ResultVar → Option AV
  | .tmp t => L t
  | .cell a t => match L a with
    | some (.ptr g 0) => match Γ g with
      | some (.box _ cs) => match tyk P t with
        | some none => (cs[0]?).map .d
        | some (some n) => bif Nat.beq n cs.length then some (.d (.ag cs)) else none
        | none => none
      | _ => none
    | _ => none
def resL (P : Program) (L : Lo) (Γ : Ga) : List ResultVar → Option (List AV)
  | [] => some []
  | r :: rs => match resA P L Γ r, resL P L Γ rs with
    | some A, some l => some (A :: l)
    | _, _ => none
def repsA (ρ : Rho) (K : Nat → Prop) (B : Nat) (w : World) : List AV → List Value → Prop
  | [], us => us = []
  | A :: r, us => ∃ u t, us = u :: t ∧ A.rep ρ K B w u ∧ repsA ρ K B w r t
section
variable {P : Program} {C : Cx} {L : Lo} {Γ : Ga} {ρ : Rho} {a : Act} {w : World}
def oneRes (tmps : Array Value) : ResultVar → Sem Value
  | .tmp t => pure (tmps.getD t undef)
  | .cell a t => do loadVar t (← asAddr (tmps.getD a undef))
theorem resA_run (h : RepsAt C ρ L Γ a w) {r : ResultVar} {A : AV} (hr : resA P L Γ r = some A) : ∃ u, (oneRes a.tmps r).run P w = .ok u w ∧ A.rep ρ (KK C.K0 ρ Γ) C.w0.heap.size w u := by
  cases r with
  | tmp t => exact ⟨_, rfl, h.slot t A hr⟩
  | cell t ty =>
    simp only [resA] at hr
    split at hr
    case h_2 => cases hr
    rename_i g hL
    split at hr
    case h_2 => cases hr
    rename_i T cs hg
    obtain ⟨ob, h1⟩ := own_block h hg (o := .box T cs) rfl
    obtain ⟨b, rfl, hv⟩ := h.slot t _ hL ob h1
    have hcells := own_cells h hg (o := .box T cs) rfl h1
    split at hr
    · rename_i ht
      cases hx : cs[0]? with
      | none => simp [hx] at hr
      | some X =>
        simp [hx] at hr; subst hr
        obtain ⟨u, h3, _, h5⟩ := repAt_get hcells hx
        exact ⟨u, by simpa [oneRes, hv, asAddr, Instr.loadAt, Instr.sureAddr] using load_one (P := P) ht h3, h5⟩
    · rename_i n ht
      cases hb : Nat.beq n cs.length with
      | false => simp [hb] at hr
      | true =>
        simp [hb] at hr; subst hr
        rw [Nat.beq_eq] at hb; subst hb
        obtain ⟨us, h4, h5, h6⟩ := repAt_vals hcells
        have hlen := repL_length h4
        refine ⟨.agg us.toArray, by simpa [oneRes, hv, asAddr, Instr.loadAt, Instr.sureAddr] using load_many (P := P) (us := us) (by rw [hlen]; exact ht) h5, ?_⟩
        show DV.rep _ _ _ _
        unfold DV.rep
        exact ⟨us, rfl, h4⟩
    · cases hr
theorem resL_run (h : RepsAt C ρ L Γ a w) : ∀ {rs : List ResultVar} {As : List AV}, resL P L Γ rs = some As → ∃ us, (rs.mapM (oneRes a.tmps)).run P w = .ok us w ∧ repsA ρ (KK C.K0 ρ Γ) C.w0.heap.size w As us
  | [], As, hr => by simp only [resL, Option.some.injEq] at hr; subst hr; exact ⟨[], by simp, rfl⟩
  | r :: rs, As, hr => by
    unfold resL at hr
    cases h1 : resA P L Γ r with
    | none => simp [h1] at hr
    | some A =>
      cases h2 : resL P L Γ rs with
      | none => simp [h1, h2] at hr
      | some l =>
        simp only [h1, h2, Option.some.injEq] at hr
        subst hr
        obtain ⟨u, k1, k2⟩ := resA_run h h1
        obtain ⟨us, k3, k4⟩ := resL_run h h2
        exact ⟨u :: us, by simp [List.mapM_cons, k1, k3], u, us, rfl, k2, k4⟩
theorem results_run {fn : Func} {rs : List ResultVar} (hf : fn.results = rs.toArray) (us : List Value) (h : (rs.mapM (oneRes a.tmps)).run P w = .ok us w) : (results fn a.tmps).run P w = .ok (match us with | [u] => u | _ => .tuple us.toArray) w := by
  have : (fn.results.mapM (oneRes a.tmps)).run P w = .ok us.toArray w := by
    rw [hf, List.mapM_toArray]
    simp [h]
  unfold results
  show (do let vs ← fn.results.mapM (oneRes a.tmps); pure (if h : vs.size = 1 then vs[0] else Value.tuple vs)).run P w = _
  simp only [Sem.run_bind, this, Result.andThen_ok, Sem.run_pure]
  congr 1
  match us with
  | [] => rfl
  | [u] => rfl
  | u :: v :: r => simp
/-- A result that is new, or has no parts elsewhere. -/
def okF : AV → Prop
  | .f _ => True
  | .d X => Pl X
  | _ => False
theorem fresh_rep {A : AV} {X : DV} {u : Value} (h : RepsAt C ρ L Γ a w) (hA : A.dv = some X) (ho : okF A) (hr : A.rep ρ (KK C.K0 ρ Γ) C.w0.heap.size w u) (K : Nat → Prop) (hK : ∀ b, K b → b < C.w0.heap.size) : X.rep K w u := by
  cases A with
  | d Y => simp only [AV.dv, Option.some.injEq] at hA; subst hA; exact ho _ _ _ _ _ hr
  | f Y => simp only [AV.dv, Option.some.injEq] at hA; subst hA; exact DV.rep_mono (fun b hb hk => ⟨rfl, hb, fun x => hk (.inr (hK b x))⟩) _ _ hr
  | _ => simp [AV.dv] at hA
theorem TE.retf {fn : Func} {r : ResultVar} {A : AV} {Y : DV} {w0 : World} {n : Nat} {L : Lo} {Γ : Ga} (hf : fn.results = #[r]) (hr : resA P L Γ r = some A) (hA : A.dv = some Y) (ho : okF A) :
    TE ⟨w0, noK, n, noM⟩ (bodyPost P fn (fun e w' => ∃ u, e = .returned u ∧ Below w0.heap.size w0 w' ∧ ∀ K, (∀ b, K b → b < w0.heap.size) → Y.rep K w' u) .ret) L Γ := fun a w ⟨ρ, h⟩ => by
  obtain ⟨us, k1, k2⟩ := resL_run (P := P) h (rs := [r]) (As := [A]) (by simp [resL, hr])
  obtain ⟨u, t, rfl, k3, k4⟩ := k2
  cases k4
  exact ⟨h.df, _, results_run (rs := [r]) hf _ k1, u, rfl, h.fr.below noMB, fun K hK => fresh_rep h hA ho k3 K hK⟩
def dvs : List AV → Option (List DV)
  | [] => some []
  | A :: r => match A.dv, dvs r with
    | some X, some l => some (X :: l)
    | _, _ => none
theorem dvs_rep {J : Nat → Prop} : ∀ {As : List AV} (hw : ∀ A ∈ As, ∀ X u, A.dv = some X → A.rep ρ (KK C.K0 ρ Γ) C.w0.heap.size w u → X.rep J w u) {Ys : List DV} {us : List Value}, dvs As = some Ys → repsA ρ (KK C.K0 ρ Γ) C.w0.heap.size w As us → repL J w Ys us
  | [], hw, Ys, us, h1, h2 => by simp only [dvs, Option.some.injEq] at h1; subst h1; unfold repsA at h2; subst h2; simp [repL]
  | A :: r, hw, Ys, us, h1, h2 => by
    unfold dvs at h1
    cases hA : A.dv with
    | none => simp [hA] at h1
    | some X =>
      cases hl : dvs r with
      | none => simp [hA, hl] at h1
      | some l =>
        simp only [hA, hl, Option.some.injEq] at h1; subst h1
        obtain ⟨u, t, rfl, k1, k2⟩ := h2
        unfold repL
        exact ⟨u, t, rfl, hw A (by simp) X u hA k1, dvs_rep (fun B hB => hw B (by simp [hB])) hl k2⟩
/-- Every one of these. -/
def allA (p : AV → Prop) : List AV → Prop
  | [] => True
  | A :: r => p A ∧ allA p r
theorem allA_mem {p : AV → Prop} : ∀ {As : List AV}, allA p As → ∀ A ∈ As, p A
  | [], _, A, h => by cases h
  | B :: r, hp, A, h => (List.mem_cons.1 h).elim (fun e => e ▸ hp.1) (allA_mem hp.2 A)
theorem TE.rettf {fn : Func} {rs : List ResultVar} {A1 A2 : AV} {As : List AV} {Ys : List DV} {w0 : World} {n : Nat} {L : Lo} {Γ : Ga} (hf : fn.results = rs.toArray) (hr : resL P L Γ rs = some (A1 :: A2 :: As)) (hA : dvs (A1 :: A2 :: As) = some Ys) (ho : allA okF (A1 :: A2 :: As)) :
    TE ⟨w0, noK, n, noM⟩ (bodyPost P fn (fun e w' => ∃ u, e = .returned u ∧ Below w0.heap.size w0 w' ∧ ∀ K, (∀ b, K b → b < w0.heap.size) → (DV.tp Ys).rep K w' u) .ret) L Γ := fun a w ⟨ρ, h⟩ => by
  obtain ⟨us, k1, k2⟩ := resL_run (P := P) h hr
  have k2' := k2
  obtain ⟨u, _, rfl, _, v, t, rfl, _, _⟩ := k2'
  refine ⟨h.df, _, results_run hf _ k1, _, rfl, h.fr.below noMB, fun K hK => ?_⟩
  unfold DV.rep
  exact ⟨u :: v :: t, rfl, dvs_rep (fun A hA' X x hX hx => fresh_rep h hX (allA_mem ho A hA') hx K hK) hA k2⟩
theorem keep_rep {A : AV} {X : DV} {u : Value} (h : RepsAt C ρ L Γ a w) (hA : A.dv = some X) (hr : A.rep ρ (KK C.K0 ρ Γ) C.w0.heap.size w u) : X.rep C.K0 w u :=
  DV.rep_mono (fun b hb hk => ⟨rfl, hb, fun x => hk (.inl x)⟩) _ _ (dv_rep hr hA)
theorem TE.retc {fn : Func} {r : ResultVar} {A : AV} {Y : DV} {w0 : World} {K : Nat → Prop} {n : Nat} {L : Lo} {Γ : Ga} (hf : fn.results = #[r]) (hr : resA P L Γ r = some A) (hA : A.dv = some Y) :
    TE ⟨w0, K, n, noM⟩ (bodyPost P fn (fun e w' => ∃ u, e = .returned u ∧ Below w0.heap.size w0 w' ∧ Y.rep K w' u) .ret) L Γ := fun a w ⟨ρ, h⟩ => by
  obtain ⟨us, k1, k2⟩ := resL_run (P := P) h (rs := [r]) (As := [A]) (by simp [resL, hr])
  obtain ⟨u, t, rfl, k3, k4⟩ := k2
  cases k4
  exact ⟨h.df, _, results_run (rs := [r]) hf _ k1, u, rfl, h.fr.below noMB, keep_rep h hA k3⟩
theorem TE.rettc {fn : Func} {rs : List ResultVar} {A1 A2 : AV} {As : List AV} {Ys : List DV} {w0 : World} {K : Nat → Prop} {n : Nat} {L : Lo} {Γ : Ga} (hf : fn.results = rs.toArray) (hr : resL P L Γ rs = some (A1 :: A2 :: As)) (hA : dvs (A1 :: A2 :: As) = some Ys) :
    TE ⟨w0, K, n, noM⟩ (bodyPost P fn (fun e w' => ∃ u, e = .returned u ∧ Below w0.heap.size w0 w' ∧ (DV.tp Ys).rep K w' u) .ret) L Γ := fun a w ⟨ρ, h⟩ => by
  obtain ⟨us, k1, k2⟩ := resL_run (P := P) h hr
  have k2' := k2
  obtain ⟨u, _, rfl, _, v, t, rfl, _, _⟩ := k2'
  refine ⟨h.df, _, results_run hf _ k1, _, rfl, h.fr.below noMB, ?_⟩
  unfold DV.rep
  exact ⟨u :: v :: t, rfl, dvs_rep (fun A hA' X x hX hx => keep_rep h hX hx) hA k2⟩
/-- A row of one's own is handed back: as a new slice. -/
theorem TE.retof {fn : Func} {t e sz m g : Nat} {cs : List DV} {w0 : World} {n : Nat} {L : Lo} {Γ : Ga} (hf : fn.results = #[.tmp t]) (hr : L t = some (.ow g m sz)) (hg : Γ g = some (.row e sz cs)) (hl : cs.length = m * sz) (hsz : 0 < sz) (hp : ∀ X ∈ cs, Pl X) :
    TE ⟨w0, noK, n, noM⟩ (bodyPost P fn (fun r w' => ∃ u vs, r = .returned u ∧ Below w0.heap.size w0 w' ∧ w'.ownsRow w0.heap.size e sz u m vs ∧ (∀ x ∈ vs, x.oneCell' = true) ∧ ∀ K, (∀ b, K b → b < w0.heap.size ∨ u.ownBlock = some b) → repL K w' cs vs) .ret) L Γ := fun a w ⟨ρ, h⟩ => by
  obtain ⟨ob, h1, h2⟩ := h.obj g _ hg (by simp)
  obtain ⟨us, k1, k2, k3, k4⟩ := row_owns (B := w0.heap.size) h2 (h.slot t _ hr ob h1) hl hsz (fun b e => h.new g b _ hg (by simp) rfl (by rw [h1, e]))
  refine ⟨h.df, _, results_run (rs := [.tmp t]) hf [a.tmps.getD t undef] (by simp [List.mapM_cons, oneRes]), _, us, rfl, h.fr.below noMB, k1, k4, fun K _ => pl_list hp _ _ _ _ _ k2⟩
end
end Go.Proofs.Ythbcbfghfhecjaa.Pl
