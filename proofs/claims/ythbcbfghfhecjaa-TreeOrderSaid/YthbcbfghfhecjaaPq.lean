/-
  A logic of walks: calls that turn a block which the caller lends.
-/
import Derived.Test.YthbcbfghfhecjaaPp

namespace Go.Proofs.Ythbcbfghfhecjaa.Pl
set_option linter.unusedVariables false
set_option linter.unusedSimpArgs false
open Go.RowKit

/-- The callee's one lent block. -/
def one (ob : Option Nat) : Rho := fun g => bif Nat.beq g 0 then some ob else none
def KM (K : Nat → Prop) (ob : Option Nat) (b : Nat) : Prop := K b ∨ ob = some b
theorem one_some {ob : Option Nat} {g : Nat} {x : Option Nat} (h : one ob g = some x) : g = 0 ∧ x = ob := by
  unfold one at h
  cases hb : Nat.beq g 0 with
  | false => simp [hb] at h
  | true => rw [Nat.beq_eq] at hb; subst hb; simp at h; exact ⟨rfl, h.symm⟩
def G1 (o : AO) : Ga := upd (fun _ => none) 0 o
theorem G1_some {o o' : AO} {g : Nat} (h : G1 o g = some o') : g = 0 ∧ o' = o := by
  rcases upd_some h with h | ⟨_, h⟩
  · exact h
  · cases h
theorem KM_eq {K : Nat → Prop} {ob : Option Nat} {o : AO} (hd : o ≠ .dead) : KK K (one ob) (G1 o) = KM K ob := by
  funext b
  refine propext ⟨?_, ?_⟩
  · rintro (h | ⟨g, _, h⟩)
    · exact .inl h
    · exact .inr (one_some h).2.symm
  · rintro (h | h)
    · exact .inl h
    · exact .inr ⟨0, ⟨o, by simp [G1, upd], hd⟩, by simp [one, h]⟩
/-- A contract of a call that turns one block that it is lent: what it is ahead of the call, what behind it, and what comes back. -/
def PM (P : Program) (f : FuncId) (As : List AV) (o0 o1 : AO) (Y : AV) : Prop := ∀ w K ob us, (∀ b, K b → b < w.heap.size ∧ ob ≠ some b) → (∀ b, ob = some b → b < w.heap.size) → o0.rep (KM K ob) w ob → repsA (one ob) (KM K ob) w.heap.size w As us →
  Calls P f us.toArray w fun r w' => ∃ u, r = .returned u ∧ Kept (fun b => ob = some b) w w' ∧ o1.rep (KM K ob) w' ob ∧ Y.rep (one ob) (KM K ob) w.heap.size w' u
def argA (As : List AV) : Lo := fun t => As[t]?
theorem repsA_get {ρ : Rho} {K : Nat → Prop} {B : Nat} {w : World} : ∀ {As : List AV} {us : List Value} {i : Nat} {A : AV}, repsA ρ K B w As us → As[i]? = some A → ∃ u, us[i]? = some u ∧ A.rep ρ K B w u
  | [], us, i, A, h, hi => by simp at hi
  | B :: r, us, 0, A, h, hi => by
    obtain ⟨u, t, rfl, h1, _⟩ := h
    simp at hi; subst hi; exact ⟨u, rfl, h1⟩
  | B :: r, us, i + 1, A, h, hi => by
    obtain ⟨u, t, rfl, _, h2⟩ := h
    obtain ⟨v, h3, h4⟩ := repsA_get h2 (by simpa using hi)
    exact ⟨v, by simpa using h3, h4⟩
theorem repsA_length {ρ : Rho} {K : Nat → Prop} {B : Nat} {w : World} : ∀ {As : List AV} {us : List Value}, repsA ρ K B w As us → us.length = As.length
  | [], us, h => by unfold repsA at h; subst h; rfl
  | A :: r, us, h => by
    obtain ⟨u, t, rfl, _, h2⟩ := h
    simp [repsA_length h2]
theorem PM.enter {P : Program} {f : FuncId} {fn : Func} {c : Code} {As : List AV} {o0 o1 : AO} {Y : AV} (hf : P.funcs[f]? = some fn) (hb : fn.body = some c) {nt : Nat} (hnt : fn.ntmps = nt) (hn : Nat.ble As.length nt = true) (hk : o0.key = some 0) (hids : (As.all fun A => match A.id with | none => true | some g => Nat.beq g 0) = true)
    (h : ∀ w K ob, TC P ⟨w, K, nt, one ob⟩ c (bodyPost P fn fun r w' => ∃ u, r = .returned u ∧ Kept (fun b => ob = some b) w w' ∧ o1.rep (KM K ob) w' ob ∧ Y.rep (one ob) (KM K ob) w.heap.size w' u) (argA As) (G1 o0)) : PM P f As o0 o1 Y := by
  intro w K ob us hK hlt ho hr
  subst hnt
  have hd : o0 ≠ .dead := by rintro rfl; simp [AO.key] at hk
  have hlen := repsA_length hr
  refine calls_of_wp hf hb (h w K ob _ _ ⟨one ob, ?_⟩)
  have hKK : KK K (one ob) (G1 o0) = KM K ob := KM_eq hd
  refine ⟨rfl, by simp at hn ⊢; omega, fun b hb => ⟨(hK b hb).1, fun ⟨k, e⟩ => (hK b hb).2 (one_some e).2.symm⟩, Kept.refl _ _, fun g hg => ?_, fun t X g ht hg => ?_, fun g b e => hlt b (one_some e).2.symm, fun g g' b e e' _ _ => by rw [(one_some e).1, (one_some e').1],
    fun g b o e _ hkey _ => ?_, fun g o k ob' e hkey hob => ?_, fun g o e _ => ?_, fun t X ht => ?_⟩
  · cases hb : Nat.beq g 0 with
    | false => simp [one, hb]
    | true => rw [Nat.beq_eq] at hb; subst hb; exact absurd ⟨o0, by simp [G1, upd], hd⟩ hg
  · have := List.all_eq_true.1 hids X (List.mem_of_getElem? ht)
    rw [hg] at this
    rw [Nat.beq_eq] at this; subst this
    simp [G1, upd]
  · obtain ⟨_, rfl⟩ := G1_some e
    rw [hk] at hkey; cases hkey
  · obtain ⟨rfl, rfl⟩ := G1_some e
    rw [hk] at hkey; cases hkey
    exact hob
  · obtain ⟨rfl, rfl⟩ := G1_some e
    exact ⟨ob, by simp [one], by rw [hKK]; exact ho⟩
  · obtain ⟨u, h1, h2⟩ := repsA_get hr ht
    have htl : t < us.length := (List.getElem?_eq_some_iff.1 h1).1
    have : (us.toArray ++ Array.replicate (fn.ntmps - us.toArray.size) undef).getD t undef = u := by
      rw [Array.getD_eq_getD_getElem?, Array.getElem?_append_left (by simpa using htl)]
      simp [h1]
    show AV.rep _ _ _ w X _
    rw [hKK]
    have e2 : (({ tmps := us.toArray ++ Array.replicate (fn.ntmps - us.toArray.size) undef, defers := [] } : Act).tmps).getD t undef = u := this
    rw [e2]
    exact h2
/-- An argument: closed data, or the block that is lent. -/
def lentA (g : Nat) : AV → Option AV
  | .d X => some (.d X)
  | .f X => some (.d X)
  | .ptr g' o => bif Nat.beq g' g then some (.ptr 0 o) else none
  | .bs g' o n s => bif Nat.beq g' g then some (.bs 0 o n s) else none
  | .ow g' n s => bif Nat.beq g' g then some (.ow 0 n s) else none
theorem lentA_rep {ρ : Rho} {K : Nat → Prop} {B B' : Nat} {w : World} {g : Nat} {ob : Option Nat} (hg : ρ g = some ob) {A A' : AV} {u : Value} (h : lentA g A = some A') (hr : A.rep ρ K B w u) : A'.rep (one ob) K B' w u := by
  have e1 : ∀ ob', one ob 0 = some ob' → ob' = ob := fun ob' h => (one_some h).2
  cases A with
  | d X => simp only [lentA, Option.some.injEq] at h; subst h; exact hr
  | f X => simp only [lentA, Option.some.injEq] at h; subst h; exact DV.rep_mono (fun b hb hn => ⟨rfl, hb, fun x => hn (.inl x)⟩) _ _ hr
  | ptr g' o =>
    cases hb : Nat.beq g' g with
    | false => simp [lentA, hb] at h
    | true => rw [Nat.beq_eq] at hb; subst hb; simp [lentA] at h; subst h; exact fun ob' h' => by rw [e1 ob' h']; exact hr ob hg
  | bs g' o n s =>
    cases hb : Nat.beq g' g with
    | false => simp [lentA, hb] at h
    | true => rw [Nat.beq_eq] at hb; subst hb; simp [lentA] at h; subst h; exact fun ob' h' => by rw [e1 ob' h']; exact hr ob hg
  | ow g' n s =>
    cases hb : Nat.beq g' g with
    | false => simp [lentA, hb] at h
    | true => rw [Nat.beq_eq] at hb; subst hb; simp [lentA] at h; subst h; exact fun ob' h' => by rw [e1 ob' h']; exact hr ob hg
theorem lentA_mono {ρ : Rho} {K K' : Nat → Prop} {B : Nat} {w : World} {g : Nat} {A Y : AV} {u : Value} (hA : lentA g A = some Y) (h : Keeps K K' w w) (hr : Y.rep ρ K B w u) : Y.rep ρ K' B w u := by
  cases Y with
  | d X => exact DV.rep_mono h X _ hr
  | f X => exact DV.rep_mono (h.widen (J := fun b => b < B)) X _ hr
  | ptr g' o => exact hr
  | bs g' o n s => exact hr
  | ow g' n s => exact hr
theorem lentA_back {ρ : Rho} {K : Nat → Prop} {B B' : Nat} {w : World} {g : Nat} {ob : Option Nat} (hg : ρ g = some ob) {A Y : AV} {u : Value} (h : lentA g A = some Y) (hr : Y.rep (one ob) K B' w u) : (match A with | .f X => AV.d X | A => A).rep ρ K B w u := by
  have e1 : ∀ ob', ρ g = some ob' → one ob 0 = some ob' := fun ob' h => by rw [hg] at h; simpa [one] using h
  cases A with
  | d X => simp only [lentA, Option.some.injEq] at h; subst h; exact hr
  | f X => simp only [lentA, Option.some.injEq] at h; subst h; exact hr
  | ptr g' o =>
    cases hb : Nat.beq g' g with
    | false => simp [lentA, hb] at h
    | true => rw [Nat.beq_eq] at hb; subst hb; simp [lentA] at h; subst h; exact fun ob' h' => hr ob' (e1 ob' h')
  | bs g' o n s =>
    cases hb : Nat.beq g' g with
    | false => simp [lentA, hb] at h
    | true => rw [Nat.beq_eq] at hb; subst hb; simp [lentA] at h; subst h; exact fun ob' h' => hr ob' (e1 ob' h')
  | ow g' n s =>
    cases hb : Nat.beq g' g with
    | false => simp [lentA, hb] at h
    | true => rw [Nat.beq_eq] at hb; subst hb; simp [lentA] at h; subst h; exact fun ob' h' => hr ob' (e1 ob' h')
section
variable {P : Program} {C : Cx} {L : Lo} {Γ : Ga} {ρ : Rho} {a : Act} {w : World}
theorem lent_back {w0 : World} {K : Nat → Prop} {n : Nat} {ob : Option Nat} {g : Nat} {o : AO} (h : RepsAt ⟨w0, K, n, one ob⟩ ρ L Γ a w) (hg : Γ g = some o) (hk : o.key = some 0) :
    Kept (fun b => ob = some b) w0 w ∧ o.rep (KM K ob) w ob ∧ (∀ b, b < w.heap.size → ¬ KK K ρ Γ b → ¬ KM K ob b) ∧ ρ g = some ob := by
  have hd : o ≠ .dead := by rintro rfl; simp [AO.key] at hk
  obtain ⟨ob', h1, h2⟩ := h.obj g o hg hd
  have e : ob' = ob := by
    have := h.len g o 0 ob' hg hk h1
    simpa [one, eq_comm] using this
  subst e
  have hsub : ∀ b, KM K ob' b → KK K ρ Γ b := fun b hb => hb.elim .inl (fun e => .inr ⟨g, ⟨o, hg, hd⟩, by rw [h1, e]⟩)
  refine ⟨⟨h.fr.os, h.fr.tape, h.fr.output, h.fr.size, fun k hk hm => h.fr.block k hk (fun ⟨j, e⟩ => hm (one_some e).2.symm), h.fr.msz⟩, AO.rep_mono (fun b hb hn => ⟨rfl, hb, fun x => hn (hsub b x)⟩) (fun _ _ => rfl) o h2, fun b _ hn x => hn (hsub b x), h1⟩
theorem TE.retm {fn : Func} {r : ResultVar} {A Y : AV} {o1 : AO} {w0 : World} {K : Nat → Prop} {n : Nat} {ob : Option Nat} (g : Nat) (hf : fn.results = #[r]) (hr : resA P L Γ r = some A) (hA : lentA g A = some Y) (hg : Γ g = some o1) (hk : o1.key = some 0) :
    TE ⟨w0, K, n, one ob⟩ (bodyPost P fn (fun e w' => ∃ u, e = .returned u ∧ Kept (fun b => ob = some b) w0 w' ∧ o1.rep (KM K ob) w' ob ∧ Y.rep (one ob) (KM K ob) w0.heap.size w' u) .ret) L Γ := fun a w ⟨ρ, h⟩ => by
  obtain ⟨us, k1, k2⟩ := resL_run (P := P) h (rs := [r]) (As := [A]) (by simp [resL, hr])
  obtain ⟨u, t, rfl, k3, k4⟩ := k2
  cases k4
  obtain ⟨q1, q2, q3, q4⟩ := lent_back h hg hk
  refine ⟨h.df, _, results_run (rs := [r]) hf _ k1, u, rfl, q1, q2, ?_⟩
  have := lentA_rep (B' := w0.heap.size) q4 hA k3
  exact lentA_mono hA (fun b hb hn => ⟨rfl, hb, q3 b hb hn⟩) this
theorem TE.retm0 {fn : Func} {o1 : AO} {w0 : World} {K : Nat → Prop} {n : Nat} {ob : Option Nat} (g : Nat) (hf : fn.results = #[]) (hg : Γ g = some o1) (hk : o1.key = some 0) :
    TE ⟨w0, K, n, one ob⟩ (bodyPost P fn (fun e w' => ∃ u, e = .returned u ∧ Kept (fun b => ob = some b) w0 w' ∧ o1.rep (KM K ob) w' ob ∧ (AV.d (.tp [])).rep (one ob) (KM K ob) w0.heap.size w' u) .ret) L Γ := fun a w ⟨ρ, h⟩ => by
  obtain ⟨q1, q2, q3, _⟩ := lent_back h hg hk
  exact ⟨h.df, _, results_run (rs := []) hf [] (by simp), _, rfl, q1, q2, by show DV.rep _ _ _ _; unfold DV.rep; exact ⟨[], rfl, by simp [repL]⟩⟩
theorem TE.rettm {fn : Func} {rs : List ResultVar} {A1 A2 : AV} {As : List AV} {Ys : List DV} {o1 : AO} {w0 : World} {K : Nat → Prop} {n : Nat} {ob : Option Nat} (g : Nat) (hf : fn.results = rs.toArray) (hr : resL P L Γ rs = some (A1 :: A2 :: As)) (hA : dvs (A1 :: A2 :: As) = some Ys) (hg : Γ g = some o1) (hk : o1.key = some 0) :
    TE ⟨w0, K, n, one ob⟩ (bodyPost P fn (fun e w' => ∃ u, e = .returned u ∧ Kept (fun b => ob = some b) w0 w' ∧ o1.rep (KM K ob) w' ob ∧ (AV.d (.tp Ys)).rep (one ob) (KM K ob) w0.heap.size w' u) .ret) L Γ := fun a w ⟨ρ, h⟩ => by
  obtain ⟨us, k1, k2⟩ := resL_run (P := P) h hr
  have k2' := k2
  obtain ⟨u, _, rfl, _, v, t, rfl, _, _⟩ := k2'
  obtain ⟨q1, q2, q3, _⟩ := lent_back h hg hk
  refine ⟨h.df, _, results_run hf _ k1, _, rfl, q1, q2, ?_⟩
  show DV.rep _ _ _ _
  unfold DV.rep
  exact ⟨u :: v :: t, rfl, dvs_rep (fun A hA' X x hX hx => DV.rep_mono (fun b hb hn => ⟨rfl, hb, q3 b hb hn⟩) _ _ (dv_rep hx hX)) hA k2⟩
end
/-! The call. -/
def AO.lend : AO → AO
  | .box T cs => .mbox 0 T cs
  | .row T sz cs => .mrow 0 T sz cs
  | .mbox _ T cs => .mbox 0 T cs
  | .mrow _ T sz cs => .mrow 0 T sz cs
  | .dead => .dead
theorem AO.lend_rep (o : AO) (hd : o ≠ .dead) (K : Nat → Prop) (w : World) (ob : Option Nat) : (o.lend).rep K w ob ↔ o.rep K w ob := by
  cases o <;> first | exact Iff.rfl | exact absurd rfl hd
def evM (L : Lo) (g : Nat) : List Operand → Option (List AV)
  | [] => some []
  | x :: r => match (ev L x).bind (lentA g), evM L g r with
    | some A, some l => some (A :: l)
    | _, _ => none
section
variable {P : Program} {C : Cx} {L : Lo} {Γ : Ga} {ty : TypeId} {pos : String} {af : Array Edge} {gd : Option (Nat × Bool)}
theorem evM_rep {ρ : Rho} {a : Act} {w : World} (h : RepsAt C ρ L Γ a w) {g : Nat} {ob : Option Nat} {B : Nat} (hg : ρ g = some ob) : ∀ {xs : List Operand} {As : List AV}, evM L g xs = some As → repsA (one ob) (KK C.K0 ρ Γ) B w As (xs.map a.eval)
  | [], As, hx => by simp only [evM, Option.some.injEq] at hx; subst hx; rfl
  | x :: r, As, hx => by
    unfold evM at hx
    cases h1 : ev L x with
    | none => simp [h1] at hx
    | some A =>
      cases h2 : lentA g A with
      | none => simp [h1, h2] at hx
      | some A' =>
        cases h3 : evM L g r with
        | none => simp [h1, h2, h3] at hx
        | some l =>
          simp only [h1, Option.bind_some, h2, h3, Option.some.injEq] at hx
          subst hx
          exact ⟨_, _, rfl, lentA_rep hg h2 (ev_rep h h1), evM_rep h hg h3⟩
/-- Behind a call that turned the block which it was lent. -/
theorem RepsAt.lent {ρ : Rho} {a : Act} {w w' : World} (h : RepsAt C ρ L Γ a w) {g : Nat} {o o' : AO} {ob : Option Nat} (hg : Γ g = some o) (hd : o ≠ .dead) (hob : ρ g = some ob) (hk : Kept (fun b => ob = some b) w w') (hd' : o' ≠ .dead) (hkey : o'.key = o.key) (ho : o'.rep (KK C.K0 ρ Γ) w' ob) :
    RepsAt C ρ L (upd Γ g o') a w' := by
  have hl : live Γ g := ⟨o, hg, hd⟩
  have hke : Keeps (KK C.K0 ρ Γ) (KK C.K0 ρ Γ) w w' := fun b hb hn => ⟨hk.block b hb (fun e => hn (.inr ⟨g, hl, by rw [hob, e]⟩)), Nat.lt_of_lt_of_le hb hk.size, hn⟩
  have hs : ∀ g' b', ρ g' = some (some b') → bsz w' b' = bsz w b' := fun g' b' h' => hk.msz b' (h.lt g' b' h')
  refine ⟨h.df, h.sz, h.k0, ⟨hk.os.trans h.fr.os, hk.tape.trans h.fr.tape, hk.output.trans h.fr.output, Nat.le_trans h.fr.size hk.size, fun k hk1 hm => ?_, fun k hk1 => (hk.msz k (Nat.lt_of_lt_of_le hk1 h.fr.size)).trans (h.fr.msz k hk1)⟩,
    fun g' hn => h.dom g' (fun x => hn ((live_upd hd' g').2 (.inr x))), fun t X g' ht hx => ?_, fun g' b' h' => Nat.lt_of_lt_of_le (h.lt g' b' h') hk.size, ?_, ?_, ?_, ?_, ?_⟩
  · refine (hk.block k (Nat.lt_of_lt_of_le hk1 h.fr.size) (fun e => ?_)).trans (h.fr.block k hk1 hm)
    cases hkk : o.key with
    | none => have := h.new g k o hg hd hkk (by rw [hob, e]); omega
    | some j => exact hm ⟨j, by have := h.len g o j ob hg hkk hob; rw [this, e]⟩
  · by_cases e : g' = g
    · subst e; rw [upd_same]; simp
    · rw [upd_other _ _ _ _ e]; exact h.ment t X g' ht hx
  · intro g1 g2 b' h1 h2 l1 l2
    exact h.inj g1 g2 b' h1 h2 (((live_upd hd' g1).1 l1).elim (fun e => e ▸ hl) id) (((live_upd hd' g2).1 l2).elim (fun e => e ▸ hl) id)
  · intro g' b' o2 h1 h2 h3 h'
    rcases upd_some h1 with ⟨rfl, rfl⟩ | ⟨_, h1⟩
    · exact h.new g' b' o hg hd (hkey ▸ h3) h'
    · exact h.new g' b' o2 h1 h2 h3 h'
  · intro g' o2 k ob' h1 h3 h'
    rcases upd_some h1 with ⟨rfl, rfl⟩ | ⟨_, h1⟩
    · exact h.len g' o k ob' hg (hkey ▸ h3) h'
    · exact h.len g' o2 k ob' h1 h3 h'
  · intro g' o2 h1 h2
    rw [KK_upd hd' hl]
    rcases upd_some h1 with ⟨rfl, rfl⟩ | ⟨hne, h1⟩
    · exact ⟨_, hob, ho⟩
    · obtain ⟨ob2, h3, h4⟩ := h.obj g' o2 h1 h2
      refine ⟨ob2, h3, AO.rep_mono hke (fun b' e => ?_) o2 h4⟩
      subst e
      exact hk.block b' (h.lt g' b' h3) (fun e => hne (h.inj g' g b' h3 (by rw [hob, e]) ⟨o2, h1, h2⟩ hl))
  · intro t X ht
    rw [KK_upd hd' hl]
    exact AV.rep_mono hke hs X _ (h.slot t X ht)
theorem callm_core {f : FuncId} {xs : List Operand} {at_ : Array TypeId} {As : List AV} {o o1 o' : AO} {cs : List DV} {Y : AV} {g : Nat} {dst : Option Nat} {a : Act} {w : World} {ρ : Rho} (h : RepsAt C ρ L Γ a w) (hf : cfn P f = true) (hg : Γ g = some o) (hoc : o.cells = some cs) (hx : evM L g xs = some As) (hl : o'.lend = o1) (hd' : o' ≠ .dead) (hkey : o'.key = o.key) (hc : PM P f As o.lend o1 Y) (R : Act → World → Prop)
    (hR : ∀ ob u w', ρ g = some ob → Y.rep (one ob) (KK C.K0 ρ Γ) w.heap.size w' u → RepsAt C ρ L (upd Γ g o') a w' → R (a.put dst u) w') :
    Oper.wp P ⟨dst, .call { callee := .value (.func f), args := xs.toArray, argTypes := at_ }, ty, pos, af, gd⟩ a w R (fun _ _ _ => False) := by
  have hd : o ≠ .dead := by rintro rfl; simp [AO.cells] at hoc
  obtain ⟨ob, h1, h2⟩ := h.obj g o hg hd
  unfold Oper.wp
  rw [call_run hf, Oper.upon_enter]
  let K : Nat → Prop := fun b => KK C.K0 ρ Γ b ∧ ob ≠ some b
  have hKM : KM K ob = KK C.K0 ρ Γ := by
    funext b
    refine propext ⟨?_, fun hb => ?_⟩
    · rintro (hb | hb)
      · exact hb.1
      · exact .inr ⟨g, ⟨o, hg, hd⟩, by rw [h1, hb]⟩
    · by_cases e : ob = some b
      · exact .inr e
      · exact .inl ⟨hb, e⟩
  refine (hc w K ob _ (fun b hb => ⟨kk_lt h b (.inl hb.1), hb.2⟩) (fun b e => h.lt g b (by rw [h1, e])) (by rw [hKM]; exact (AO.lend_rep o hd _ _ _).2 h2) (by rw [hKM]; exact evM_rep h h1 hx)).mono ?_
  rintro r w' ⟨u, rfl, hkept, ho1, hY⟩
  rw [hKM] at ho1 hY
  subst hl
  exact hR ob u w' h1 hY (h.lent hg hd h1 hkept hd' hkey ((AO.lend_rep o' hd' _ _ _).1 ho1))
/-- What comes back: closed data, or the block that was lent. -/
def backA (g : Nat) : AV → AV
  | .d X => .d X
  | .f X => .d X
  | .ptr _ o => .ptr g o
  | .bs _ o n s => .bs g o n s
  | .ow _ n s => .ow g n s
def plainB : AV → Bool
  | .f _ => false
  | .ptr g _ => Nat.beq g 0
  | .bs g _ _ _ => Nat.beq g 0
  | .ow g _ _ => Nat.beq g 0
  | .d _ => true
theorem OT.callm {d : Nat} {f : FuncId} {xs : List Operand} {at_ : Array TypeId} {As : List AV} {o o1 o' : AO} {cs : List DV} {Y : AV} (g : Nat) (hn : Nat.blt d C.n = true) (hf : cfn P f = true) (hg : Γ g = some o) (hoc : o.cells = some cs) (hx : evM L g xs = some As) (hl : o'.lend = o1) (hd' : o' ≠ .dead) (hkey : o'.key = o.key) (hb : plainB Y = true) (hc : PM P f As o.lend o1 Y) :
    OT P C ⟨some d, .call { callee := .value (.func f), args := xs.toArray, argTypes := at_ }, ty, pos, af, gd⟩ L Γ (upd L d (backA g Y)) (upd Γ g o') := by
  rintro a w ⟨ρ, h⟩
  have hd : o ≠ .dead := by rintro rfl; simp [AO.cells] at hoc
  refine callm_core h hf hg hoc hx hl hd' hkey hc _ fun ob u w' hob hY hr => ⟨ρ, hr.put (by simpa using hn) ?_ (fun g1 hg1 => ?_)⟩
  · rw [KK_upd hd' ⟨o, hg, hd⟩]
    have e1 : ∀ ob', ρ g = some ob' → one ob 0 = some ob' := fun ob' h => by rw [hob] at h; simpa [one] using h
    cases Y with
    | d X => exact hY
    | f X => simp [plainB] at hb
    | ptr g' o => simp only [plainB, Nat.beq_eq] at hb; subst hb; exact fun ob' h' => hY ob' (e1 ob' h')
    | bs g' o n s => simp only [plainB, Nat.beq_eq] at hb; subst hb; exact fun ob' h' => hY ob' (e1 ob' h')
    | ow g' n s => simp only [plainB, Nat.beq_eq] at hb; subst hb; exact fun ob' h' => hY ob' (e1 ob' h')
  · have : g1 = g := by cases Y <;> simp [backA, AV.id] at hg1 <;> exact hg1.symm
    subst this; rw [upd_same]; simp
theorem OT.callm0 {f : FuncId} {xs : List Operand} {at_ : Array TypeId} {As : List AV} {o o1 o' : AO} {cs : List DV} {Y : AV} (g : Nat) (hf : cfn P f = true) (hg : Γ g = some o) (hoc : o.cells = some cs) (hx : evM L g xs = some As) (hl : o'.lend = o1) (hd' : o' ≠ .dead) (hkey : o'.key = o.key) (hc : PM P f As o.lend o1 Y) :
    OT P C ⟨none, .call { callee := .value (.func f), args := xs.toArray, argTypes := at_ }, ty, pos, af, gd⟩ L Γ L (upd Γ g o') := by
  rintro a w ⟨ρ, h⟩
  exact callm_core h hf hg hoc hx hl hd' hkey hc _ fun ob u w' _ hY hr => ⟨ρ, hr⟩
end
end Go.Proofs.Ythbcbfghfhecjaa.Pl
