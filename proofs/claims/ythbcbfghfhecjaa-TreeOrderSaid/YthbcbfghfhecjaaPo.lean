/-
  A logic of walks: function values called; shifts; contracts of plain values.
-/
import Derived.Test.YthbcbfghfhecjaaPn
namespace Go.Proofs.Ythbcbfghfhecjaa.Pl
set_option linter.unusedVariables false
set_option linter.unusedSimpArgs false
open Go.RowKit

section
variable {P : Program} {C : Cx} {L : Lo} {Γ : Ga} {d : Nat} {ty : TypeId} {pos : String} {af : Array Edge} {gd : Option (Nat × Bool)}
theorem callv_run {f : FuncId} (hf : cfn P f = true) {y : Operand} {cs : List Value} (xs : List Operand) (at_ : Array TypeId) (a : Act) (w : World) (d : Option Nat) (hy : a.eval y = .func (.func f) #[] cs.toArray) :
    (execOp a.eval ⟨d, .call { callee := .value y, args := xs.toArray, argTypes := at_ }, ty, pos, af, gd⟩).run P w = .ok (.enter f (xs.map a.eval ++ cs).toArray) w := by
  simp [execOp, resolve, hy, Deferred.ofValue, invoke, callFunc_run hf]
theorem repL_app {K : Nat → Prop} {w : World} {cs ds : List DV} {us vs : List Value} (h : repL K w cs us) (k : repL K w ds vs) : repL K w (cs ++ ds) (us ++ vs) := repL_append h k
theorem fn_rep {K : Nat → Prop} {w : World} {f : Fn} {cs : List DV} {u : Value} (h : (DV.fn f [] cs).rep K w u) : ∃ vs, u = .func f #[] vs.toArray ∧ repL K w cs vs := by
  unfold DV.rep at h
  obtain ⟨us, vs, rfl, h1, h2⟩ := h
  unfold repL at h1
  subst h1
  exact ⟨vs, rfl, h2⟩
theorem OT.callvf {f : FuncId} {y : Operand} {caps : List DV} {xs : List Operand} {at_ : Array TypeId} {Xs : List DV} {Y : DV} (hn : Nat.blt d C.n = true) (hy : evd L y = some (.fn (.func f) [] caps)) (hf : cfn P f = true) (hx : evR L Γ xs = some Xs) (hok : okR L Γ xs) (hc : PF P f (Xs ++ caps) Y) :
    OT P C ⟨some d, .call { callee := .value y, args := xs.toArray, argTypes := at_ }, ty, pos, af, gd⟩ L Γ (upd L d (.f Y)) Γ := by
  rintro a w ⟨ρ, h⟩
  obtain ⟨vs, hv, hr⟩ := fn_rep (evd_rep h hy)
  unfold Oper.wp
  rw [callv_run hf xs at_ a w _ hv, Oper.upon_enter]
  refine (hc w _ (repL_append (evR_rep h hx hok) (repL_mono (fun b hb _ => ⟨rfl, hb, fun x => x⟩) _ _ hr))).mono ?_
  rintro e w' ⟨u, rfl, hb, hY⟩
  exact ⟨ρ, (h.ext hb).put (by simpa using hn) (hY _ fun b hb => kk_lt h b hb) (fun g hg => by simp [AV.id] at hg)⟩
theorem OT.shr {xt yt : TypeId} {x y : Operand} {k k' : IntKind} {n c : Int} (v : Int) (hn : Nat.blt d C.n = true) (hx : evv L x = some (.int k n)) (hy : evv L y = some (.int k' c)) (hc : 0 ≤ c) (hv : n.fdiv (2 ^ (min c.toNat k.bits)) = v) :
    OT P C ⟨some d, .binOp .shr xt x y yt, ty, pos, af, gd⟩ L Γ (upd L d (.f (.v (.int k v)))) Γ :=
  OT.value hn (fun g hg => by simp [AV.id] at hg) fun ρ a w hr => ⟨.int k v, by
    have h1 : ¬ c < 0 := by omega
    simp [execOp, evv_eval hr hx, evv_eval hr hy, eqGuard, binOp, Op.shift, h1, hv], rfl⟩
end
/-! A row of one's own is let go: from then on it is read alone. -/
theorem reps_freeze {C : Cx} {L : Lo} {Γ : Ga} {a : Act} {w : World} (t : Nat) {g n sz e : Nat} {cs : List DV} (ht : L t = some (.ow g n sz)) (hg : Γ g = some (.row e sz cs)) (hl : cs.length = n * sz) (h : Reps C L Γ a w) : Reps C (upd L t (.d (.sl sz n cs))) (upd Γ g .dead) a w := by
  obtain ⟨ρ, h⟩ := h
  obtain ⟨ob, h1, h2⟩ := h.obj g _ hg (by simp)
  classical
  let ρ' : Rho := fun x => if x = g then none else ρ x
  have r1 : ∀ x y, ρ' x = some y → x ≠ g ∧ ρ x = some y := fun x y hx => by
    by_cases e : x = g
    · simp [ρ', e] at hx
    · simp [ρ', e] at hx; exact ⟨e, hx⟩
  have hlv : ∀ x, live (upd Γ g .dead) x → x ≠ g ∧ live Γ x := fun x ⟨o, p, q⟩ => by
    rcases upd_some p with ⟨_, e⟩ | ⟨hne, p⟩
    · exact absurd e q
    · exact ⟨hne, o, p, q⟩
  have hk : Keeps (KK C.K0 ρ Γ) (KK C.K0 ρ' (upd Γ g .dead)) w w := fun b hb hn => ⟨rfl, hb, fun x => hn (x.elim .inl fun ⟨x, p, q⟩ => .inr ⟨x, (hlv x p).2, (r1 x _ q).2⟩)⟩
  refine ⟨ρ', h.df, h.sz, h.k0, h.fr, fun x hx => ?_, fun s X x hs hX => ?_, fun x b hb => h.lt x b (r1 x _ hb).2, fun x y b p q l1 l2 => h.inj x y b (r1 x _ p).2 (r1 y _ q).2 (hlv x l1).2 (hlv y l2).2, fun x b o k1 k2 k3 p => (upd_some k1).elim (fun e => absurd e.2 k2) (fun e => h.new x b o e.2 k2 k3 (r1 x _ p).2), fun x o k oo k1 k3 p => (upd_some k1).elim (fun e => by rw [e.2] at k3; cases k3) (fun e => h.len x o k oo e.2 k3 (r1 x _ p).2), fun x o p q => ?_, fun s X hs => ?_⟩
  · by_cases e : x = g
    · simp [ρ', e]
    · have : ¬ live Γ x := fun ⟨o, p, q⟩ => hx ⟨o, by rw [upd_other _ _ _ _ e]; exact p, q⟩
      simp [ρ', e, h.dom x this]
  · by_cases e : x = g
    · subst e; rw [upd_same]; simp
    · rw [upd_other _ _ _ _ e]
      rcases upd_some hs with ⟨_, rfl⟩ | ⟨_, hs⟩
      · simp [AV.id] at hX
      · exact h.ment s X x hs hX
  · rcases upd_some p with ⟨_, e⟩ | ⟨hne, p⟩
    · exact absurd e q
    · obtain ⟨oo, k1, k2⟩ := h.obj x o p q
      exact ⟨oo, by simp [ρ', hne, k1], AO.rep_mono hk (fun _ _ => rfl) o k2⟩
  · rcases upd_some hs with ⟨rfl, rfl⟩ | ⟨_, hs⟩
    · show DV.rep _ _ _ _
      unfold DV.rep
      rcases h.slot s _ ht ob h1 with ⟨rfl, k1, rfl⟩ | ⟨b, c, rfl, k1, k2, k3, k4⟩
      · exact .inl ⟨k1, rfl, List.eq_nil_of_length_eq_zero (by rw [hl]; simp)⟩
      · refine .inr ⟨b, 0, c, k1, k2, k3, hl, .inr ⟨h.lt g b h1, ?_⟩, ?_⟩
        · rintro (x | ⟨x, p, q⟩)
          · have k0 := h.k0 b x; have := k0.1; have := h.new g b _ hg (by simp) rfl h1; omega
          · exact (hlv x p).1 (h.inj x g b (r1 x _ q).2 h1 (hlv x p).2 ⟨_, hg, by simp⟩)
        · obtain ⟨us, q1, q2, q3⟩ := repAt_vals (row_cells h2)
          exact repAt_of_cells (repL_mono hk _ _ q1) q2 q3
    · have hX := h.slot s X hs
      cases X with
      | d X => exact DV.rep_mono hk X _ hX
      | f X => exact DV.rep_mono (hk.widen (J := fun b => b < C.w0.heap.size)) X _ hX
      | ptr x o => exact fun ob hob => hX ob (r1 x _ hob).2
      | bs x o n s => exact fun ob hob => hX ob (r1 x _ hob).2
      | ow x n s => exact fun ob hob => hX ob (r1 x _ hob).2
theorem TL.freeze {P : Program} {C : Cx} {L : Lo} {Γ : Ga} {ops : Array Oper} {Q : Exit → Act → World → Prop} {rest : List Oper} (t : Nat) {g n sz e : Nat} {cs : List DV} (ht : L t = some (.ow g n sz)) (hg : Γ g = some (.row e sz cs)) (hl : cs.length = n * sz) (k : TL P C ops Q rest (upd L t (.d (.sl sz n cs))) (upd Γ g .dead)) : TL P C ops Q rest L Γ :=
  fun a w h => k a w (reps_freeze t ht hg hl h)
theorem TE.freeze {C : Cx} {L : Lo} {Γ : Ga} {R : Act → World → Prop} (t : Nat) {g n sz e : Nat} {cs : List DV} (ht : L t = some (.ow g n sz)) (hg : Γ g = some (.row e sz cs)) (hl : cs.length = n * sz) (k : TE C R (upd L t (.d (.sl sz n cs))) (upd Γ g .dead)) : TE C R L Γ :=
  fun a w h => k a w (reps_freeze t ht hg hl h)

/-! Contracts of plain values. -/
def vals : List DV → Option (List Value)
  | [] => some []
  | .v u :: r => (vals r).map (u :: ·)
  | _ => none
def pv : DV → Option Value
  | .v u => some u
  | .ag cs => (vals cs).map fun us => .agg us.toArray
  | _ => none
def pvs : List DV → Option (List Value)
  | [] => some []
  | X :: r => match pv X, pvs r with
    | some u, some l => some (u :: l)
    | _, _ => none
theorem vals_rep {K : Nat → Prop} {w : World} : ∀ {cs : List DV} {us vs : List Value}, vals cs = some us → (repL K w cs vs ↔ vs = us)
  | [], us, vs, h => by simp [vals] at h; subst h; simp [repL]
  | .v u :: r, us, vs, h => by
    simp only [vals] at h
    cases hr : vals r with
    | none => simp [hr] at h
    | some l =>
      simp [hr] at h; subst h
      have ih := fun vs => vals_rep (K := K) (w := w) (vs := vs) hr
      unfold repL
      constructor
      · rintro ⟨x, t, rfl, h1, h2⟩
        simp only [DV.rep] at h1
        rw [h1, (ih t).1 h2]
      · rintro rfl; exact ⟨u, l, rfl, rfl, (ih l).2 rfl⟩
  | .sl .. :: r, us, vs, h => by simp [vals] at h
  | .el .. :: r, us, vs, h => by simp [vals] at h
  | .ag .. :: r, us, vs, h => by simp [vals] at h
  | .tp .. :: r, us, vs, h => by simp [vals] at h
  | .fn .. :: r, us, vs, h => by simp [vals] at h
theorem pv_rep {K : Nat → Prop} {w : World} {X : DV} {u v : Value} (h : pv X = some u) : X.rep K w v ↔ v = u := by
  cases X <;> simp [pv] at h
  · subst h; simp [DV.rep]
  · obtain ⟨us, h1, rfl⟩ := h
    simp only [DV.rep]
    constructor
    · rintro ⟨vs, rfl, h2⟩; rw [(vals_rep h1).1 h2]
    · rintro rfl; exact ⟨us, rfl, (vals_rep h1).2 rfl⟩
theorem pvs_rep {K : Nat → Prop} {w : World} : ∀ {Xs : List DV} {us vs : List Value}, pvs Xs = some us → repL K w Xs vs → vs = us
  | [], us, vs, h, hr => by simp [pvs] at h; subst h; simpa [repL] using hr
  | X :: r, us, vs, h, hr => by
    unfold pvs at h
    cases h1 : pv X with
    | none => simp [h1] at h
    | some u =>
      cases h2 : pvs r with
      | none => simp [h1, h2] at h
      | some l =>
        simp only [h1, h2, Option.some.injEq] at h; subst h
        unfold repL at hr
        obtain ⟨x, t, rfl, h3, h4⟩ := hr
        rw [(pv_rep h1).1 h3, pvs_rep h2 h4]
/-- A contract that is said of values. -/
theorem pf_plain {P : Program} {f : FuncId} {Xs : List DV} {Y : DV} {us : List Value} {u : Value} (hX : pvs Xs = some us) (hY : pv Y = some u) (hc : ∀ w, Calls P f us.toArray w fun e w' => e = .returned u ∧ Below w.heap.size w w') : PF P f Xs Y := fun w vs hr => by
  rw [pvs_rep hX hr]
  exact (hc w).mono fun e w' ⟨h1, h2⟩ => ⟨u, h1, h2, fun K _ => (pv_rep hY).2 rfl⟩
end Go.Proofs.Ythbcbfghfhecjaa.Pl
