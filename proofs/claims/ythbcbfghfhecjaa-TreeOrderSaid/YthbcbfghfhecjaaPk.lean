/-
  A logic of walks: a region that draws its order: each operation said for itself, in the listed order.
-/
import Derived.Test.YthbcbfghfhecjaaPj
namespace Go.Proofs.Ythbcbfghfhecjaa.Pl
set_option linter.unusedVariables false
set_option linter.unusedSimpArgs false
open Go.RowKit

/-- What an operation turns: its slot, blocks. -/
structure Eff where
  dst : Option (Nat × AV)
  gam : List (Nat × AO)
def Eff.L (E : Eff) (L : Lo) : Lo := match E.dst with | some (d, X) => upd L d X | none => L
def Eff.G (E : Eff) (Γ : Ga) : Ga := E.gam.foldl (fun Γ x => upd Γ x.1 x.2) Γ
def mem (l : List Nat) (t : Nat) : Bool := match l with | [] => false | x :: r => bif Nat.beq t x then true else mem r t
theorem mem_iff {l : List Nat} {t : Nat} : mem l t = true ↔ t ∈ l := by
  induction l with
  | nil => simp [mem]
  | cons x r ih =>
    unfold mem
    cases h : Nat.beq t x with
    | true => rw [Nat.beq_eq] at h; simp [h]
    | false =>
      have : t ≠ x := by rw [← Bool.not_eq_true, Nat.beq_eq] at h; exact h
      simp [ih, this]
/-- These places as f has them, all others as g has them. -/
def pin {α : Type} (f : Nat → Option α) (l : List Nat) (g : Nat → Option α) : Nat → Option α := fun t => bif mem l t then f t else g t
theorem pin_eq {α : Type} {f g : Nat → Option α} {l : List Nat} (h : ∀ t ∈ l, g t = f t) : pin f l g = g := by
  funext t
  unfold pin
  cases hm : mem l t with
  | true => rw [cond_true, h t (mem_iff.1 hm)]
  | false => rfl
/-- One row of a region: the operation, what it turns, the blocks that it looks at. -/
structure Ro where
  o : Oper
  E : Eff
  G : List Nat
def Ro.rT (ops : Array Oper) (x : Ro) : List Nat := x.o.looksAt ops
def Ro.ids (x : Ro) : List Nat := x.E.gam.map (·.1)
def Ob (P : Program) (C : Cx) (ops : Array Oper) (x : Ro) (L : Lo) (Γ : Ga) : Prop :=
  match x.o.guard with
  | none => ∀ L1 Γ1, OT P C x.o (pin L (x.rT ops) L1) (pin Γ x.G Γ1) (x.E.L (pin L (x.rT ops) L1)) (x.E.G (pin Γ x.G Γ1))
  | some (j, want) => (∃ t d, (ops[j]?).bind (·.dst) = some t ∧ mem (x.rT ops) t = true ∧ evv L (.tmp t) = some undef ∧ x.o.dst = some d ∧ Nat.blt d C.n = true ∧ x.E = ⟨some (d, .f (.v undef)), []⟩) ∨ ∃ t b, (ops[j]?).bind (·.dst) = some t ∧ mem (x.rT ops) t = true ∧ evv L (.tmp t) = some (.bool b) ∧ Nat.blt t C.n = true ∧
      if b = want then ∀ L1 Γ1, OT P C x.o (pin L (x.rT ops) L1) (pin Γ x.G Γ1) (x.E.L (pin L (x.rT ops) L1)) (x.E.G (pin Γ x.G Γ1))
      else ∃ d, x.o.dst = some d ∧ Nat.blt d C.n = true ∧ x.E = ⟨some (d, .f (.v undef)), []⟩
def Obs (P : Program) (C : Cx) (ops : Array Oper) : List Ro → Lo → Ga → Prop
  | [], _, _ => True
  | x :: r, L, Γ => Ob P C ops x L Γ ∧ Obs P C ops r (x.E.L L) (x.E.G Γ)
def stL : List Ro → Lo → Lo
  | [], L => L
  | x :: r, L => stL r (x.E.L L)
def stG : List Ro → Ga → Ga
  | [], Γ => Γ
  | x :: r, Γ => stG r (x.E.G Γ)

/-! Which operations go ahead of which. -/
def bnds (e : Edge) : Bool := Region.binds .any e
def mk1 (o : Oper) (acc : List Nat) : Nat := o.after.toList.foldl (fun s e => bif bnds e then s ||| (1 <<< e.on) ||| acc.getD e.on 0 else s) 0
def bmGo : List Oper → List Nat → List Nat
  | [], acc => acc
  | o :: r, acc => bmGo r (acc ++ [mk1 o acc])
theorem mk1_bit {acc : List Nat} {i : Nat} : ∀ (l : List Edge) (s : Nat), (l.foldl (fun s e => bif bnds e then s ||| (1 <<< e.on) ||| acc.getD e.on 0 else s) s).testBit i = true → s.testBit i = true ∨ ∃ e ∈ l, bnds e = true ∧ (i = e.on ∨ (acc.getD e.on 0).testBit i = true)
  | [], s, h => .inl h
  | e :: r, s, h => by
    rw [List.foldl_cons] at h
    rcases mk1_bit r _ h with h | ⟨e', h1, h2⟩
    · cases hb : bnds e with
      | false => rw [hb, cond_false] at h; exact .inl h
      | true =>
        rw [hb, cond_true, Nat.testBit_or, Nat.testBit_or] at h
        simp only [Bool.or_eq_true] at h
        rcases h with (h | h) | h
        · exact .inl h
        · refine .inr ⟨e, by simp, hb, .inl ?_⟩
          rw [Nat.testBit_shiftLeft] at h
          simp only [Bool.and_eq_true, decide_eq_true_eq] at h
          obtain ⟨h1, h2⟩ := h
          have : i - e.on = 0 := by
            cases hk : i - e.on with
            | zero => rfl
            | succ n => rw [hk, Nat.testBit_succ] at h2; simp at h2
          omega
        · exact .inr ⟨e, by simp, hb, .inr h⟩
    · exact .inr ⟨e', by simp [h1], h2⟩
theorem bm_closed {S : Nat → Prop} : ∀ (l : List Oper) (acc : List Nat) (pre : List Oper), acc.length = pre.length → (∀ j o, (pre ++ l)[j]? = some o → S j → ∀ e ∈ o.after, bnds e = true → S e.on) →
    (∀ j, S j → ∀ i, (acc.getD j 0).testBit i = true → S i) → ∀ j, S j → ∀ i, ((bmGo l acc).getD j 0).testBit i = true → S i
  | [], acc, pre, _, _, h => h
  | o :: r, acc, pre, hlen, hcl, h => by
    unfold bmGo
    refine bm_closed r (acc ++ [mk1 o acc]) (pre ++ [o]) (by simp [hlen]) (by simpa using hcl) ?_
    intro j hj i hi
    by_cases hlt : j < acc.length
    · rw [List.getD_eq_getElem?_getD, List.getElem?_append_left hlt, ← List.getD_eq_getElem?_getD] at hi
      exact h j hj i hi
    · by_cases heq : j = acc.length
      · subst heq
        rw [List.getD_eq_getElem?_getD, List.getElem?_append_right (Nat.le_refl _)] at hi
        simp only [Nat.sub_self, List.getElem?_cons_zero, Option.getD_some] at hi
        rcases mk1_bit _ _ hi with h0 | ⟨e, h1, h2, h3⟩
        · simp at h0
        · have hS := hcl acc.length o (by rw [hlen]; simp) hj e (by simpa using h1) h2
          rcases h3 with rfl | h3
          · exact hS
          · exact h e.on hS i h3
      · rw [List.getD_eq_getElem?_getD, List.getElem?_eq_none (by simp; omega)] at hi
        simp at hi
/-- Two rows that turn a place that the other one looks at. -/
def clash (ops : Array Oper) (x y : Ro) : Bool :=
  (match x.E.dst with | some (d, _) => mem (y.rT ops) d || (match y.E.dst with | some (d', _) => Nat.beq d d' | none => false) | none => false) ||
  (match y.E.dst with | some (d, _) => mem (x.rT ops) d | none => false) ||
  x.ids.any (fun g => mem y.G g || mem y.ids g) || y.ids.any (fun g => mem x.G g || mem x.ids g)
def okPairs (ops : Array Oper) (bm : List Nat) : List Ro → List Ro → Nat → Bool
  | [], _, _ => true
  | y :: r, pre, j => (pre.zipIdx.all fun x => !(clash ops x.1 y) || (bm.getD j 0).testBit x.2) && okPairs ops bm r (pre ++ [y]) (j + 1)
/-- All that is to be looked at once in a region. -/
def drawOK (rs : List Ro) : Bool :=
  let ops := (rs.map (·.o)).toArray
  (rs.zipIdx.all fun x => x.1.o.after.all fun e => !(bnds e) || Nat.blt e.on x.2) && (rs.all fun x => match x.o.dst, x.E.dst with | some d, some (d', _) => Nat.beq d d' | none, none => true | _, _ => false) &&
  (rs.all fun x => match x.o.op with | .select .. => false | _ => true) && okPairs ops (bmGo (rs.map (·.o)) []) rs [] 0
theorem okPairs_spec {ops : Array Oper} {bm : List Nat} : ∀ {l pre : List Ro} {j0 : Nat}, okPairs ops bm l pre j0 = true → pre.length = j0 → ∀ i j x y, i < j → j0 ≤ j → (pre ++ l)[i]? = some x → (pre ++ l)[j]? = some y → clash ops x y = true → (bm.getD j 0).testBit i = true
  | [], pre, j0, h, hl, i, j, x, y, hij, hj, hx, hy, hc => by
    have := (List.getElem?_eq_some_iff.1 hy).1
    simp at this; omega
  | z :: r, pre, j0, h, hl, i, j, x, y, hij, hj, hx, hy, hc => by
    unfold okPairs at h
    simp only [Bool.and_eq_true] at h
    by_cases e : j = j0
    · subst e
      rw [List.getElem?_append_right (by omega)] at hy
      simp [hl] at hy
      subst hy
      rw [List.getElem?_append_left (by omega)] at hx
      have h1 := List.all_eq_true.1 h.1 (x, i) (by
        rw [List.mem_iff_getElem?]
        exact ⟨i, by rw [List.getElem?_zipIdx, hx]; simp⟩)
      simp only [hc, Bool.not_true, Bool.false_or] at h1
      exact h1
    · exact okPairs_spec h.2 (by simp [hl]) i j x y hij (by omega) (by simpa using hx) (by simpa using hy) hc

/-! The state behind some of the rows. -/
def mL (S : Nat → Bool) : List Ro → Nat → Lo → Lo
  | [], _, L => L
  | x :: r, k, L => mL S r (k + 1) (bif S k then x.E.L L else L)
def mG (S : Nat → Bool) : List Ro → Nat → Ga → Ga
  | [], _, Γ => Γ
  | x :: r, k, Γ => mG S r (k + 1) (bif S k then x.E.G Γ else Γ)
def Eff.wT (E : Eff) (t : Nat) : Prop := ∃ X, E.dst = some (t, X)
def Eff.wG (E : Eff) (g : Nat) : Prop := g ∈ E.gam.map (·.1)
theorem effL_at (E : Eff) (L L' : Lo) (t : Nat) (h : L t = L' t) : E.L L t = E.L L' t := by
  unfold Eff.L
  cases hd : E.dst with
  | none => exact h
  | some x =>
    obtain ⟨d, X⟩ := x
    by_cases e : t = d
    · subst e; simp only [upd_same]
    · simp only [upd_other _ _ _ _ e]; exact h
theorem effL_off (E : Eff) (L : Lo) (t : Nat) (h : ¬ E.wT t) : E.L L t = L t := by
  unfold Eff.L
  cases hd : E.dst with
  | none => rfl
  | some x =>
    obtain ⟨d, X⟩ := x
    exact upd_other _ _ _ _ (fun e => h ⟨X, by rw [hd, e]⟩)
theorem foldG_at : ∀ (l : List (Nat × AO)) (Γ Γ' : Ga) (g : Nat), Γ g = Γ' g → (l.foldl (fun Γ x => upd Γ x.1 x.2) Γ) g = (l.foldl (fun Γ x => upd Γ x.1 x.2) Γ') g
  | [], Γ, Γ', g, h => h
  | (k, o) :: r, Γ, Γ', g, h => by
    rw [List.foldl_cons, List.foldl_cons]
    refine foldG_at r _ _ g ?_
    by_cases e : g = k
    · subst e; simp only [upd_same]
    · simp only [upd_other _ _ _ _ e]; exact h
theorem foldG_off : ∀ (l : List (Nat × AO)) (Γ : Ga) (g : Nat), g ∉ l.map (·.1) → (l.foldl (fun Γ x => upd Γ x.1 x.2) Γ) g = Γ g
  | [], Γ, g, _ => rfl
  | (k, o) :: r, Γ, g, h => by
    simp only [List.map_cons, List.mem_cons, not_or] at h
    rw [List.foldl_cons, foldG_off r _ g h.2, upd_other _ _ _ _ h.1]
theorem foldG_on : ∀ (l : List (Nat × AO)) (Γ Γ' : Ga) (g : Nat), g ∈ l.map (·.1) → (l.foldl (fun Γ x => upd Γ x.1 x.2) Γ) g = (l.foldl (fun Γ x => upd Γ x.1 x.2) Γ') g
  | [], Γ, Γ', g, h => by simp at h
  | (k, o) :: r, Γ, Γ', g, h => by
    rw [List.foldl_cons, List.foldl_cons]
    by_cases hr : g ∈ r.map (·.1)
    · exact foldG_on r _ _ g hr
    · have e : g = k := by simp only [List.map_cons, List.mem_cons] at h; exact h.resolve_right hr
      rw [foldG_off r _ g hr, foldG_off r _ g hr, e, upd_same, upd_same]
theorem effL_comm (E F : Eff) (L : Lo) (h : ∀ t, E.wT t → ¬ F.wT t) : E.L (F.L L) = F.L (E.L L) := by
  funext t
  by_cases he : E.wT t
  · have hf := h t he
    rw [effL_off F (E.L L) t hf, effL_at E (F.L L) L t (effL_off F L t hf)]
  · rw [effL_off E (F.L L) t he]
    exact effL_at F L (E.L L) t (effL_off E L t he).symm
theorem effG_comm (E F : Eff) (Γ : Ga) (h : ∀ g, E.wG g → ¬ F.wG g) : E.G (F.G Γ) = F.G (E.G Γ) := by
  funext g
  by_cases he : E.wG g
  · have hf := h g he
    rw [show F.G (E.G Γ) g = E.G Γ g from foldG_off _ _ g hf]
    exact foldG_on _ _ _ g he
  · rw [show E.G (F.G Γ) g = F.G Γ g from foldG_off _ _ g he]
    exact foldG_at _ Γ (E.G Γ) g (foldG_off _ _ g he).symm
end Go.Proofs.Ythbcbfghfhecjaa.Pl
