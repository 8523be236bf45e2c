/-
  A logic of walks: operations one by one.
-/
import Derived.Test.YthbcbfghfhecjaaPa
namespace Go.Proofs.Ythbcbfghfhecjaa.Pl
set_option linter.unusedVariables false
set_option linter.unusedSimpArgs false
open Go.RowKit

/-- An operation turns what is known so. -/
def OT (P : Program) (C : Cx) (o : Oper) (L : Lo) (Γ : Ga) (L' : Lo) (Γ' : Ga) : Prop :=
  ∀ a w, Reps C L Γ a w → o.wp P a w (fun a' w' => Reps C L' Γ' a' w') (fun _ _ _ => False)
def ev (L : Lo) : Operand → Option AV
  | .tmp t => L t
  | .const v => some (.f (.v v))
  | .func f => some (.f (.fn (.func f) [] []))
  | .global _ => none
def AV.val : AV → Option Value
  | .d (.v u) => some u
  | .f (.v u) => some u
  | _ => none
def evv (L : Lo) (x : Operand) : Option Value := (ev L x).bind AV.val
def evd (L : Lo) (x : Operand) : Option DV := (ev L x).bind AV.dv
theorem ev_rep {C : Cx} {ρ : Rho} {L : Lo} {Γ : Ga} {a : Act} {w : World} (h : RepsAt C ρ L Γ a w) {x : Operand} {X : AV} (hx : ev L x = some X) : X.rep ρ (KK C.K0 ρ Γ) C.w0.heap.size w (a.eval x) := by
  cases x with
  | tmp t => exact h.slot t X hx
  | const v => simp only [ev, Option.some.injEq] at hx; subst hx; simp only [AV.rep, DV.rep]; rfl
  | global g => simp [ev] at hx
  | func f => simp only [ev, Option.some.injEq] at hx; subst hx; exact ⟨[], [], rfl, by simp [repL], by simp [repL]⟩
theorem dv_rep {ρ : Rho} {K : Nat → Prop} {B : Nat} {w : World} {A : AV} {X : DV} {u : Value} (h : A.rep ρ K B w u) (hx : A.dv = some X) : X.rep K w u := by
  cases A with
  | d Y => simp only [AV.dv, Option.some.injEq] at hx; subst hx; exact h
  | f Y => simp only [AV.dv, Option.some.injEq] at hx; subst hx; exact DV.rep_mono (fun b hb hk => ⟨rfl, hb, fun x => hk (.inl x)⟩) _ _ h
  | _ => simp [AV.dv] at hx
theorem evv_eval {C : Cx} {ρ : Rho} {L : Lo} {Γ : Ga} {a : Act} {w : World} (h : RepsAt C ρ L Γ a w) {x : Operand} {u : Value} (hx : evv L x = some u) : a.eval x = u := by
  unfold evv at hx
  cases hA : ev L x with
  | none => simp [hA] at hx
  | some A =>
    rw [hA, Option.bind_some] at hx
    have hr := ev_rep h hA
    cases A with
    | d Y => cases Y <;> simp [AV.val] at hx; subst hx; simpa [AV.rep, DV.rep] using hr
    | f Y => cases Y <;> simp [AV.val] at hx; subst hx; simpa [AV.rep, DV.rep] using hr
    | _ => simp [AV.val] at hx
theorem evd_rep {C : Cx} {ρ : Rho} {L : Lo} {Γ : Ga} {a : Act} {w : World} (h : RepsAt C ρ L Γ a w) {x : Operand} {X : DV} (hx : evd L x = some X) : X.rep (KK C.K0 ρ Γ) w (a.eval x) := by
  unfold evd at hx
  cases hA : ev L x with
  | none => simp [hA] at hx
  | some A => rw [hA, Option.bind_some] at hx; exact dv_rep (ev_rep h hA) hx

/-- An operation that gives a value and leaves memory as it is. -/
theorem OT.value {P : Program} {C : Cx} {L : Lo} {Γ : Ga} {d : Nat} {p : Op} {ty : TypeId} {pos : String} {af : Array Edge} {gd : Option (Nat × Bool)} (hn : Nat.blt d C.n = true) {X : AV} (hi : ∀ g, X.id = some g → ∀ ρ a w, RepsAt C ρ L Γ a w → Γ g ≠ none)
    (h : ∀ ρ a w, RepsAt C ρ L Γ a w → ∃ u, (execOp a.eval ⟨some d, p, ty, pos, af, gd⟩).run P w = .ok (.value u) w ∧ X.rep ρ (KK C.K0 ρ Γ) C.w0.heap.size w u) :
    OT P C ⟨some d, p, ty, pos, af, gd⟩ L Γ (upd L d X) Γ := by
  rintro a w ⟨ρ, hr⟩
  obtain ⟨u, h1, h2⟩ := h ρ a w hr
  unfold Oper.wp
  rw [h1, Oper.upon_value]
  exact ⟨ρ, hr.put (by simpa using hn) h2 fun g hg => hi g hg ρ a w hr⟩
theorem ev_ment {C : Cx} {ρ : Rho} {L : Lo} {Γ : Ga} {a : Act} {w : World} (h : RepsAt C ρ L Γ a w) {x : Operand} {X : AV} (hx : ev L x = some X) {g : Nat} (hg : X.id = some g) : Γ g ≠ none := by
  cases x with
  | tmp t => exact h.ment t X g hx hg
  | const v => simp only [ev, Option.some.injEq] at hx; subst hx; simp [AV.id] at hg
  | global g => simp [ev] at hx
  | func f => simp only [ev, Option.some.injEq] at hx; subst hx; simp [AV.id] at hg
theorem AV.re_id (A : AV) (X : DV) (g : Nat) : (AV.id (match A with | .f _ => .f X | _ => .d X)) ≠ some g := by cases A <;> simp [AV.id]
section
variable {P : Program} {C : Cx} {L : Lo} {Γ : Ga} {d : Nat} {ty : TypeId} {pos : String} {af : Array Edge} {gd : Option (Nat × Bool)}
theorem OT.move {x : Operand} {X : AV} (hn : Nat.blt d C.n = true) (hx : ev L x = some X) : OT P C ⟨some d, .move x, ty, pos, af, gd⟩ L Γ (upd L d X) Γ :=
  OT.value hn (fun g hg ρ a w h => ev_ment h hx hg) fun ρ a w h => ⟨_, by simp only [execOp, Sem.run_pure], ev_rep h hx⟩
theorem OT.assign {x : Operand} {X : AV} (hn : Nat.blt d C.n = true) (hx : ev L x = some X) : OT P C ⟨some d, .assign x, ty, pos, af, gd⟩ L Γ (upd L d X) Γ :=
  OT.value hn (fun g hg ρ a w h => ev_ment h hx hg) fun ρ a w h => ⟨_, by simp only [execOp, Sem.run_pure], ev_rep h hx⟩
/-- What an operator makes of two values. -/
def ikb (k k' : IntKind) : Bool := Nat.beq k.ctorIdx k'.ctorIdx
theorem ikb_eq {k k' : IntKind} (h : ikb k k' = true) : k = k' := by cases k <;> cases k' <;> first | rfl | (exfalso; revert h; decide)
def bo : BinOp → Value → Value → Option Value
  | .add, .int k a, .int k' b => bif ikb k k' then some (.int k (k.wrap (a + b))) else none
  | .sub, .int k a, .int k' b => bif ikb k k' then some (.int k (k.wrap (a - b))) else none
  | .mul, .int k a, .int k' b => bif ikb k k' then some (.int k (k.wrap (a * b))) else none
  | .eql, .int k a, .int k' b => bif ikb k k' then some (.bool (decide (a = b))) else none
  | .neq, .int k a, .int k' b => bif ikb k k' then some (.bool (!decide (a = b))) else none
  | .lss, .int k a, .int k' b => bif ikb k k' then some (.bool (decide (a < b))) else none
  | .leq, .int k a, .int k' b => bif ikb k k' then some (.bool (decide (a ≤ b))) else none
  | .gtr, .int k a, .int k' b => bif ikb k k' then some (.bool (decide (b < a))) else none
  | .geq, .int k a, .int k' b => bif ikb k k' then some (.bool (decide (b ≤ a))) else none
  | .eql, .string ⟨⟨l⟩⟩, .string ⟨⟨m⟩⟩ => some (.bool (decide (l = m)))
  | .neq, .string ⟨⟨l⟩⟩, .string ⟨⟨m⟩⟩ => some (.bool (!decide (l = m)))
  | .lss, .string ⟨⟨l⟩⟩, .string ⟨⟨m⟩⟩ => some (.bool (Op.bytesLess l m))
  | .leq, .string ⟨⟨l⟩⟩, .string ⟨⟨m⟩⟩ => some (.bool (Op.bytesLess l m || decide (l = m)))
  | .gtr, .string ⟨⟨l⟩⟩, .string ⟨⟨m⟩⟩ => some (.bool (!(Op.bytesLess l m || decide (l = m))))
  | .geq, .string ⟨⟨l⟩⟩, .string ⟨⟨m⟩⟩ => some (.bool (!Op.bytesLess l m))
  | _, _, _ => none
theorem ba_toList (l : List UInt8) : ByteArray.toList ⟨⟨l⟩⟩ = l := by
  have h : ∀ (n i : Nat) (acc : List UInt8), n = l.length - i → ByteArray.toList.loop ⟨⟨l⟩⟩ i acc = acc.reverse ++ l.drop i := by
    intro n
    induction n with
    | zero =>
      intro i acc hn
      rw [ByteArray.toList.loop.eq_1]
      have : ¬ i < ByteArray.size ⟨⟨l⟩⟩ := by show ¬ i < l.length; omega
      rw [if_neg this, List.drop_eq_nil_of_le (by omega), List.append_nil]
    | succ n ih =>
      intro i acc hn
      have hi : i < l.length := by omega
      rw [ByteArray.toList.loop.eq_1]
      have : i < ByteArray.size ⟨⟨l⟩⟩ := by show i < l.length; omega
      rw [if_pos this, ih (i + 1) _ (by omega)]
      rw [List.reverse_cons, List.append_assoc, List.singleton_append, ← List.getElem_cons_drop hi]
      congr 2
      show (ByteArray.get! ⟨⟨l⟩⟩ i) = l[i]
      simp [ByteArray.get!, hi]
  have := h l.length 0 [] (by simp)
  rw [ByteArray.toList]; simpa using this
theorem bo_run {op : BinOp} {x y u : Value} (t : TypeId) (h : bo op x y = some u) (w : World) : (binOp op t x y).run P w = .ok u w := by
  unfold bo at h
  split at h
  case h_16 => cases h
  case h_10 | h_11 | h_12 | h_13 | h_14 | h_15 =>
    simp only [Option.some.injEq] at h
    subst h
    have hb : ∀ l m : List UInt8, (l == m) = decide (l = m) := fun l m => by rw [Bool.eq_iff_iff]; simp
    simp only [binOp, Op.stringOp, ba_toList, Sem.run_pure, hb]
    try rfl
  all_goals
    rename_i k a k' b
    cases hk : ikb k k' with
    | false => simp [hk] at h
    | true =>
      obtain rfl := ikb_eq hk
      simp only [hk, cond_true, Option.some.injEq] at h
      subst h
      simp only [binOp, ne_eq, not_true_eq_false, if_false, Op.intArith, Op.intCmp, Sem.run_pure]
      try first | rfl | (simp; done)
theorem bo_kinds {op : BinOp} {u1 u2 u : Value} (h : bo op u1 u2 = some u) : (∃ k a k' b, u1 = .int k a ∧ u2 = .int k' b) ∨ ∃ s t, u1 = .string s ∧ u2 = .string t := by
  unfold bo at h
  split at h
  case h_16 => cases h
  case h_10 | h_11 | h_12 | h_13 | h_14 | h_15 => exact .inr ⟨_, _, rfl, rfl⟩
  all_goals exact .inl ⟨_, _, _, _, rfl, rfl⟩
theorem eqGuard_val {op : BinOp} {u1 u2 u : Value} (h : bo op u1 u2 = some u) (t : TypeId) (x y : Operand) (w : World) : (eqGuard op t x y u1 u2).run P w = .ok () w := by
  rcases bo_kinds h with ⟨k, a, k', b, rfl, rfl⟩ | ⟨s, t, rfl, rfl⟩ <;> (clear h; cases op <;> rfl)
theorem OT.bin {op : BinOp} {xt yt : TypeId} {x y : Operand} {u1 u2 u : Value} (hn : Nat.blt d C.n = true) (hx : evv L x = some u1) (hy : evv L y = some u2) (h : bo op u1 u2 = some u) :
    OT P C ⟨some d, .binOp op xt x y yt, ty, pos, af, gd⟩ L Γ (upd L d (.f (.v u))) Γ :=
  OT.value hn (fun g hg => by simp [AV.id] at hg) fun ρ a w hr => ⟨u, by simp only [execOp, evv_eval hr hx, evv_eval hr hy, Sem.run_bind, eqGuard_val h, bo_run xt h, Result.andThen_ok, Sem.run_pure], rfl⟩
/-- The same with the value in another spelling. -/
theorem OT.binv {op : BinOp} {xt yt : TypeId} {x y : Operand} {u1 u2 u : Value} (u' : Value) (hn : Nat.blt d C.n = true) (hx : evv L x = some u1) (hy : evv L y = some u2) (h : bo op u1 u2 = some u) (hu : u = u') :
    OT P C ⟨some d, .binOp op xt x y yt, ty, pos, af, gd⟩ L Γ (upd L d (.f (.v u'))) Γ := hu ▸ OT.bin hn hx hy h
def uo : UnOp → Value → Option Value
  | .not, .bool b => some (.bool !b)
  | .neg, .int k n => some (.int k (k.wrap (0 - n)))
  | _, _ => none
theorem OT.un {op : UnOp} {xt : TypeId} {x : Operand} {u1 u : Value} (hn : Nat.blt d C.n = true) (hx : evv L x = some u1) (h : uo op u1 = some u) :
    OT P C ⟨some d, .unOp op xt x, ty, pos, af, gd⟩ L Γ (upd L d (.f (.v u))) Γ :=
  OT.value hn (fun g hg => by simp [AV.id] at hg) fun ρ a w hr => by
    refine ⟨u, ?_, rfl⟩
    unfold uo at h
    split at h
    · simp only [Option.some.injEq] at h; subst h; simp only [execOp, evv_eval hr hx, Op.unary, Sem.run_bind, Sem.run_pure, Result.andThen_ok]
    · simp only [Option.some.injEq] at h; subst h; simp only [execOp, evv_eval hr hx, Op.unary, Op.intArith, Sem.run_bind, Sem.run_pure, Result.andThen_ok]
    · cases h
theorem OT.pick {c x y : Operand} {b : Bool} {X : AV} (hn : Nat.blt d C.n = true) (hc : evv L c = some (.bool b)) (hx : (bif b then ev L x else ev L y) = some X) :
    OT P C ⟨some d, .pick c x y, ty, pos, af, gd⟩ L Γ (upd L d X) Γ :=
  OT.value hn (fun g hg ρ a w h => by cases b <;> exact ev_ment h hx hg) fun ρ a w hr => by
    cases b with
    | true => exact ⟨a.eval x, by simp only [execOp, evv_eval hr hc, Sem.run_bind]; rfl, ev_rep hr hx⟩
    | false => exact ⟨a.eval y, by simp only [execOp, evv_eval hr hc, Sem.run_bind]; rfl, ev_rep hr hx⟩
def AV.re (A : AV) (X : DV) : AV := match A with | .f _ => .f X | _ => .d X
theorem AV.re_rep {ρ : Rho} {K : Nat → Prop} {B : Nat} {w : World} {A : AV} {X Y : DV} {u v : Value} (h : A.rep ρ K B w u) (hx : A.dv = some X) (hy : ∀ J, X.rep J w u → Y.rep J w v) : (A.re Y).rep ρ K B w v := by
  cases A with
  | d Z => simp only [AV.dv, Option.some.injEq] at hx; subst hx; exact hy _ h
  | f Z => simp only [AV.dv, Option.some.injEq] at hx; subst hx; exact hy _ h
  | _ => simp [AV.dv] at hx
theorem OT.extract {x : Operand} {i : Nat} {A : AV} {cs : List DV} {Y : DV} (hn : Nat.blt d C.n = true) (hx : ev L x = some A) (hA : A.dv = some (.tp cs)) (hi : cs[i]? = some Y) :
    OT P C ⟨some d, .extract x i, ty, pos, af, gd⟩ L Γ (upd L d (A.re Y)) Γ :=
  OT.value hn (fun g hg => absurd hg (AV.re_id A Y g)) fun ρ a w hr => by
    have h1 := ev_rep hr hx
    have h2 := dv_rep h1 hA
    unfold DV.rep at h2
    obtain ⟨us, hu, hl⟩ := h2
    obtain ⟨u, hu2, _⟩ := repL_get hl hi
    refine ⟨u, ?_, AV.re_rep h1 hA fun J hJ => ?_⟩
    · simp only [execOp, hu, Instr.extract]; simp [hu2]
    · unfold DV.rep at hJ
      obtain ⟨us', hu', hl'⟩ := hJ
      rw [hu] at hu'
      have : us = us' := by simpa using hu'
      subst this
      obtain ⟨u', h3, h4⟩ := repL_get hl' hi
      rw [hu2] at h3; cases h3; exact h4
end
end Go.Proofs.Ythbcbfghfhecjaa.Pl
