import Derived.Test.YtdjcclcejmeheaaGreatZQ1
import Derived.Lib.Bytealg
import Derived.Lib.UnsafeStr
import Derived.Laws.Externs
import Derived.DeepKeys
import Derived.Lib.ConvBytes
import Derived.Lib.SliceRun
import Derived.OpenShut
import Derived.ChangeSlices
import Derived.WideShapes
/-
  A logic of walks: a region that draws its order: each operation said for itself, in the listed order. A logic of walks: any order of a region comes to the same. A logic of walks: appends to nothing, literals of slices, conversions, least and greatest. A logic of walks: function values called; shifts; contracts of plain values. A logic of walks: remainders, bits, shifts, equal truths. A logic of walks: calls that turn a block which the caller lends. A logic of walks: parts of rows, bytes compared, functions with what they hold, nothing compared. A logic of walks: aggregates compared; slices of nothing; rows that grow; a row's tail cleared; strings and bytes. A logic of walks: literals of slices without elements. Whatever comes in, of a type of numbers, truths, strings, arrays, structs and slices, reads as data. Numbers of lists, that all layers share.
-/
section
namespace Go.Proofs.YtdjcclcejmeheaaGreat.Pl
set_option linter.unusedVariables false
set_option linter.unusedSimpArgs false
open Go.RowKit
/-- What an operation turns: its slot, blocks. -/
structure Eff where
  dst : Option (Nat × AV)
  gam : List (Nat × AO)
def Eff.L (E : Eff) (L : Lo) : Lo := match E.dst with | some (d, X) => upd L d X | none => L
def Eff.G (E : Eff) (Γ : Ga) : Ga := E.gam.foldl (fun Γ x => upd Γ x.1 x.2) Γ
def mem (l : List Nat) (t : Nat) : Bool := match l with | [] => false | x :: r => bif Nat.beq t x then true else mem r t
theorem mem_iff {l : List Nat} {t : Nat} : mem l t = true ↔ t ∈ l := by
  induction l with
  | nil => simp [mem]
  | cons x r ih =>
    unfold mem
    cases h : Nat.beq t x with
    | true => rw [Nat.beq_eq] at h; simp [h]
    | false =>
      have : t ≠ x := by rw [← Bool.not_eq_true, Nat.beq_eq] at h; exact h
      simp [ih, this]
/-- These places as f has them, all others as g has them. -/
def pin {α : Type} (f : Nat → Option α) (l : List Nat) (g : Nat → Option α) : Nat → Option α := fun t => bif mem l t then f t else g t
theorem pin_eq {α : Type} {f g : Nat → Option α} {l : List Nat} (h : ∀ t ∈ l, g t = f t) : pin f l g = g := by
  funext t
  unfold pin
  cases hm : mem l t with
  | true => rw [cond_true, h t (mem_iff.1 hm)]
  | false => rfl
/-- One row of a region: the operation, what it turns, the blocks that it looks at. -/
structure Ro where
  o : Oper
  E : Eff
  G : List Nat
def Ro.rT (ops : Array Oper) (x : Ro) : List Nat := x.o.looksAt ops
def Ro.ids (x : Ro) : List Nat := x.E.gam.map (·.1)
def Ob (P : Program) (C : Cx) (ops : Array Oper) (x : Ro) (L : Lo) (Γ : Ga) : Prop :=
  match x.o.guard with
  | none => ∀ L1 Γ1, OT P C x.o (pin L (x.rT ops) L1) (pin Γ x.G Γ1) (x.E.L (pin L (x.rT ops) L1)) (x.E.G (pin Γ x.G Γ1))
  | some (j, want) => (∃ t d, (ops[j]?).bind (·.dst) = some t ∧ mem (x.rT ops) t = true ∧ evv L (.tmp t) = some undef ∧ x.o.dst = some d ∧ Nat.blt d C.n = true ∧ x.E = ⟨some (d, .f (.v undef)), []⟩) ∨ ∃ t b, (ops[j]?).bind (·.dst) = some t ∧ mem (x.rT ops) t = true ∧ evv L (.tmp t) = some (.bool b) ∧ Nat.blt t C.n = true ∧
      if b = want then ∀ L1 Γ1, OT P C x.o (pin L (x.rT ops) L1) (pin Γ x.G Γ1) (x.E.L (pin L (x.rT ops) L1)) (x.E.G (pin Γ x.G Γ1))
      else ∃ d, x.o.dst = some d ∧ Nat.blt d C.n = true ∧ x.E = ⟨some (d, .f (.v undef)), []⟩
def Obs (P : Program) (C : Cx) (ops : Array Oper) : List Ro → Lo → Ga → Prop
  | [], _, _ => True
  | x :: r, L, Γ => Ob P C ops x L Γ ∧ Obs P C ops r (x.E.L L) (x.E.G Γ)
def stL : List Ro → Lo → Lo
  | [], L => L
  | x :: r, L => stL r (x.E.L L)
def stG : List Ro → Ga → Ga
  | [], Γ => Γ
  | x :: r, Γ => stG r (x.E.G Γ)
def bnds (e : Edge) : Bool := Region.binds .any e
def mk1 (o : Oper) (acc : List Nat) : Nat := o.after.toList.foldl (fun s e => bif bnds e then s ||| (1 <<< e.on) ||| acc.getD e.on 0 else s) 0
def bmGo : List Oper → List Nat → List Nat
  | [], acc => acc
  | o :: r, acc => bmGo r (acc ++ [mk1 o acc])
theorem mk1_bit {acc : List Nat} {i : Nat} : ∀ (l : List Edge) (s : Nat), (l.foldl (fun s e => bif bnds e then s ||| (1 <<< e.on) ||| acc.getD e.on 0 else s) s).testBit i = true → s.testBit i = true ∨ ∃ e ∈ l, bnds e = true ∧ (i = e.on ∨ (acc.getD e.on 0).testBit i = true)
  | [], s, h => .inl h
  | e :: r, s, h => by
    rw [List.foldl_cons] at h
    rcases mk1_bit r _ h with h | ⟨e', h1, h2⟩
    · cases hb : bnds e with
      | false => rw [hb, cond_false] at h; exact .inl h
      | true =>
        rw [hb, cond_true, Nat.testBit_or, Nat.testBit_or] at h
        simp only [Bool.or_eq_true] at h
        rcases h with (h | h) | h
        · exact .inl h
        · refine .inr ⟨e, by simp, hb, .inl ?_⟩
          rw [Nat.testBit_shiftLeft] at h
          simp only [Bool.and_eq_true, decide_eq_true_eq] at h
          obtain ⟨h1, h2⟩ := h
          have : i - e.on = 0 := by
            cases hk : i - e.on with
            | zero => rfl
            | succ n => rw [hk, Nat.testBit_succ] at h2; simp at h2
          omega
        · exact .inr ⟨e, by simp, hb, .inr h⟩
    · exact .inr ⟨e', by simp [h1], h2⟩
theorem bm_closed {S : Nat → Prop} : ∀ (l : List Oper) (acc : List Nat) (pre : List Oper), acc.length = pre.length → (∀ j o, (pre ++ l)[j]? = some o → S j → ∀ e ∈ o.after, bnds e = true → S e.on) →
    (∀ j, S j → ∀ i, (acc.getD j 0).testBit i = true → S i) → ∀ j, S j → ∀ i, ((bmGo l acc).getD j 0).testBit i = true → S i
  | [], acc, pre, _, _, h => h
  | o :: r, acc, pre, hlen, hcl, h => by
    unfold bmGo
    refine bm_closed r (acc ++ [mk1 o acc]) (pre ++ [o]) (by simp [hlen]) (by simpa using hcl) ?_
    intro j hj i hi
    by_cases hlt : j < acc.length
    · rw [List.getD_eq_getElem?_getD, List.getElem?_append_left hlt, ← List.getD_eq_getElem?_getD] at hi
      exact h j hj i hi
    · by_cases heq : j = acc.length
      · subst heq
        rw [List.getD_eq_getElem?_getD, List.getElem?_append_right (Nat.le_refl _)] at hi
        simp only [Nat.sub_self, List.getElem?_cons_zero, Option.getD_some] at hi
        rcases mk1_bit _ _ hi with h0 | ⟨e, h1, h2, h3⟩
        · simp at h0
        · have hS := hcl acc.length o (by rw [hlen]; simp) hj e (by simpa using h1) h2
          rcases h3 with rfl | h3
          · exact hS
          · exact h e.on hS i h3
      · rw [List.getD_eq_getElem?_getD, List.getElem?_eq_none (by simp; omega)] at hi
        simp at hi
/-- Two rows that turn a place that the other one looks at. -/
def clash (ops : Array Oper) (x y : Ro) : Bool :=
  (match x.E.dst with | some (d, _) => mem (y.rT ops) d || (match y.E.dst with | some (d', _) => Nat.beq d d' | none => false) | none => false) ||
  (match y.E.dst with | some (d, _) => mem (x.rT ops) d | none => false) ||
  x.ids.any (fun g => mem y.G g || mem y.ids g) || y.ids.any (fun g => mem x.G g || mem x.ids g)
def okPairs (ops : Array Oper) (bm : List Nat) : List Ro → List Ro → Nat → Bool
  | [], _, _ => true
  | y :: r, pre, j => (pre.zipIdx.all fun x => !(clash ops x.1 y) || (bm.getD j 0).testBit x.2) && okPairs ops bm r (pre ++ [y]) (j + 1)
/-- All that is to be looked at once in a region. -/
def drawOK (rs : List Ro) : Bool :=
  let ops := (rs.map (·.o)).toArray
  (rs.zipIdx.all fun x => x.1.o.after.all fun e => !(bnds e) || Nat.blt e.on x.2) && (rs.all fun x => match x.o.dst, x.E.dst with | some d, some (d', _) => Nat.beq d d' | none, none => true | _, _ => false) &&
  (rs.all fun x => match x.o.op with | .select .. => false | _ => true) && okPairs ops (bmGo (rs.map (·.o)) []) rs [] 0
theorem okPairs_spec {ops : Array Oper} {bm : List Nat} : ∀ {l pre : List Ro} {j0 : Nat}, okPairs ops bm l pre j0 = true → pre.length = j0 → ∀ i j x y, i < j → j0 ≤ j → (pre ++ l)[i]? = some x → (pre ++ l)[j]? = some y → clash ops x y = true → (bm.getD j 0).testBit i = true
  | [], pre, j0, h, hl, i, j, x, y, hij, hj, hx, hy, hc => by
    have := (List.getElem?_eq_some_iff.1 hy).1
    simp at this; omega
  | z :: r, pre, j0, h, hl, i, j, x, y, hij, hj, hx, hy, hc => by
    unfold okPairs at h
    simp only [Bool.and_eq_true] at h
    by_cases e : j = j0
    · subst e
      rw [List.getElem?_append_right (by omega)] at hy
      simp [hl] at hy
      subst hy
      rw [List.getElem?_append_left (by omega)] at hx
      have h1 := List.all_eq_true.1 h.1 (x, i) (by
        rw [List.mem_iff_getElem?]
        exact ⟨i, by rw [List.getElem?_zipIdx, hx]; simp⟩)
      simp only [hc, Bool.not_true, Bool.false_or] at h1
      exact h1
    · exact okPairs_spec h.2 (by simp [hl]) i j x y hij (by omega) (by simpa using hx) (by simpa using hy) hc
def mL (S : Nat → Bool) : List Ro → Nat → Lo → Lo
  | [], _, L => L
  | x :: r, k, L => mL S r (k + 1) (bif S k then x.E.L L else L)
def mG (S : Nat → Bool) : List Ro → Nat → Ga → Ga
  | [], _, Γ => Γ
  | x :: r, k, Γ => mG S r (k + 1) (bif S k then x.E.G Γ else Γ)
def Eff.wT (E : Eff) (t : Nat) : Prop := ∃ X, E.dst = some (t, X)
def Eff.wG (E : Eff) (g : Nat) : Prop := g ∈ E.gam.map (·.1)
theorem effL_at (E : Eff) (L L' : Lo) (t : Nat) (h : L t = L' t) : E.L L t = E.L L' t := by
  unfold Eff.L
  cases hd : E.dst with
  | none => exact h
  | some x =>
    obtain ⟨d, X⟩ := x
    by_cases e : t = d
    · subst e; simp only [upd_same]
    · simp only [upd_other _ _ _ _ e]; exact h
theorem effL_off (E : Eff) (L : Lo) (t : Nat) (h : ¬ E.wT t) : E.L L t = L t := by
  unfold Eff.L
  cases hd : E.dst with
  | none => rfl
  | some x =>
    obtain ⟨d, X⟩ := x
    exact upd_other _ _ _ _ (fun e => h ⟨X, by rw [hd, e]⟩)
theorem foldG_at : ∀ (l : List (Nat × AO)) (Γ Γ' : Ga) (g : Nat), Γ g = Γ' g → (l.foldl (fun Γ x => upd Γ x.1 x.2) Γ) g = (l.foldl (fun Γ x => upd Γ x.1 x.2) Γ') g
  | [], Γ, Γ', g, h => h
  | (k, o) :: r, Γ, Γ', g, h => by
    rw [List.foldl_cons, List.foldl_cons]
    refine foldG_at r _ _ g ?_
    by_cases e : g = k
    · subst e; simp only [upd_same]
    · simp only [upd_other _ _ _ _ e]; exact h
theorem foldG_off : ∀ (l : List (Nat × AO)) (Γ : Ga) (g : Nat), g ∉ l.map (·.1) → (l.foldl (fun Γ x => upd Γ x.1 x.2) Γ) g = Γ g
  | [], Γ, g, _ => rfl
  | (k, o) :: r, Γ, g, h => by
    simp only [List.map_cons, List.mem_cons, not_or] at h
    rw [List.foldl_cons, foldG_off r _ g h.2, upd_other _ _ _ _ h.1]
theorem foldG_on : ∀ (l : List (Nat × AO)) (Γ Γ' : Ga) (g : Nat), g ∈ l.map (·.1) → (l.foldl (fun Γ x => upd Γ x.1 x.2) Γ) g = (l.foldl (fun Γ x => upd Γ x.1 x.2) Γ') g
  | [], Γ, Γ', g, h => by simp at h
  | (k, o) :: r, Γ, Γ', g, h => by
    rw [List.foldl_cons, List.foldl_cons]
    by_cases hr : g ∈ r.map (·.1)
    · exact foldG_on r _ _ g hr
    · have e : g = k := by simp only [List.map_cons, List.mem_cons] at h; exact h.resolve_right hr
      rw [foldG_off r _ g hr, foldG_off r _ g hr, e, upd_same, upd_same]
theorem effL_comm (E F : Eff) (L : Lo) (h : ∀ t, E.wT t → ¬ F.wT t) : E.L (F.L L) = F.L (E.L L) := by
  funext t
  by_cases he : E.wT t
  · have hf := h t he
    rw [effL_off F (E.L L) t hf, effL_at E (F.L L) L t (effL_off F L t hf)]
  · rw [effL_off E (F.L L) t he]
    exact effL_at F L (E.L L) t (effL_off E L t he).symm
theorem effG_comm (E F : Eff) (Γ : Ga) (h : ∀ g, E.wG g → ¬ F.wG g) : E.G (F.G Γ) = F.G (E.G Γ) := by
  funext g
  by_cases he : E.wG g
  · have hf := h g he
    rw [show F.G (E.G Γ) g = E.G Γ g from foldG_off _ _ g hf]
    exact foldG_on _ _ _ g he
  · rw [show E.G (F.G Γ) g = F.G Γ g from foldG_off _ _ g he]
    exact foldG_at _ Γ (E.G Γ) g (foldG_off _ _ g he).symm
end Go.Proofs.YtdjcclcejmeheaaGreat.Pl
end
section
namespace Go.Proofs.YtdjcclcejmeheaaGreat.Pl
set_option linter.unusedVariables false
set_option linter.unusedSimpArgs false
open Go.RowKit
theorem mL_append (S : Nat → Bool) : ∀ (l m : List Ro) (k : Nat) (L : Lo), mL S (l ++ m) k L = mL S m (k + l.length) (mL S l k L)
  | [], m, k, L => rfl
  | x :: r, m, k, L => by
    show mL S (r ++ m) (k + 1) _ = mL S m (k + (x :: r).length) (mL S r (k + 1) _)
    rw [mL_append S r m (k + 1), List.length_cons, show k + 1 + r.length = k + (r.length + 1) by omega]
theorem mG_append (S : Nat → Bool) : ∀ (l m : List Ro) (k : Nat) (L : Ga), mG S (l ++ m) k L = mG S m (k + l.length) (mG S l k L)
  | [], m, k, L => rfl
  | x :: r, m, k, L => by
    show mG S (r ++ m) (k + 1) _ = mG S m (k + (x :: r).length) (mG S r (k + 1) _)
    rw [mG_append S r m (k + 1), List.length_cons, show k + 1 + r.length = k + (r.length + 1) by omega]
theorem mL_congr {S S' : Nat → Bool} : ∀ (l : List Ro) (k : Nat) (L : Lo), (∀ j, k ≤ j → j < k + l.length → S j = S' j) → mL S l k L = mL S' l k L
  | [], k, L, _ => rfl
  | x :: r, k, L, h => by
    unfold mL
    rw [h k (Nat.le_refl _) (by simp), mL_congr r (k + 1) _ (fun j h1 h2 => h j (by omega) (by simp at h2 ⊢; omega))]
theorem mG_congr {S S' : Nat → Bool} : ∀ (l : List Ro) (k : Nat) (L : Ga), (∀ j, k ≤ j → j < k + l.length → S j = S' j) → mG S l k L = mG S' l k L
  | [], k, L, _ => rfl
  | x :: r, k, L, h => by
    unfold mG
    rw [h k (Nat.le_refl _) (by simp), mG_congr r (k + 1) _ (fun j h1 h2 => h j (by omega) (by simp at h2 ⊢; omega))]
theorem mL_past {S : Nat → Bool} (E : Eff) : ∀ (l : List Ro) (k : Nat) (L : Lo), (∀ j y, l[j]? = some y → S (k + j) = true → ∀ t, E.wT t → ¬ y.E.wT t) → mL S l k (E.L L) = E.L (mL S l k L)
  | [], k, L, _ => rfl
  | x :: r, k, L, h => by
    unfold mL
    have h' : ∀ j y, r[j]? = some y → S (k + 1 + j) = true → ∀ t, E.wT t → ¬ y.E.wT t := fun j y hy hs => h (j + 1) y (by simpa using hy) (by rw [show k + (j + 1) = k + 1 + j by omega]; exact hs)
    cases hs : S k with
    | false => exact mL_past E r (k + 1) L h'
    | true =>
      rw [cond_true, cond_true, ← effL_comm E x.E L (h 0 x (by simp) hs)]
      exact mL_past E r (k + 1) _ h'
theorem mG_past {S : Nat → Bool} (E : Eff) : ∀ (l : List Ro) (k : Nat) (L : Ga), (∀ j y, l[j]? = some y → S (k + j) = true → ∀ t, E.wG t → ¬ y.E.wG t) → mG S l k (E.G L) = E.G (mG S l k L)
  | [], k, L, _ => rfl
  | x :: r, k, L, h => by
    unfold mG
    have h' : ∀ j y, r[j]? = some y → S (k + 1 + j) = true → ∀ t, E.wG t → ¬ y.E.wG t := fun j y hy hs => h (j + 1) y (by simpa using hy) (by rw [show k + (j + 1) = k + 1 + j by omega]; exact hs)
    cases hs : S k with
    | false => exact mG_past E r (k + 1) L h'
    | true =>
      rw [cond_true, cond_true, ← effG_comm E x.E L (h 0 x (by simp) hs)]
      exact mG_past E r (k + 1) _ h'
theorem agreeL {S : Nat → Bool} {t : Nat} : ∀ (l : List Ro) (k m : Nat) (L1 L2 : Lo), L1 t = L2 t → (∀ j y, l[j]? = some y → y.E.wT t → (j < m → S (k + j) = true) ∧ (m ≤ j → S (k + j) = false)) → mL S l k L1 t = stL (l.take m) L2 t
  | [], k, m, L1, L2, h, _ => by simpa [mL, stL] using h
  | x :: r, k, 0, L1, L2, h, hc => by
    unfold mL
    have h' := agreeL (t := t) r (k + 1) 0 (bif S k then x.E.L L1 else L1) L2 (by
      cases hs : S k with
      | false => exact h
      | true => rw [cond_true, effL_off _ _ _ (fun hw => by have := (hc 0 x (by simp) hw).2 (Nat.le_refl _); rw [Nat.add_zero, hs] at this; cases this)]; exact h)
      (fun j y hy hw => ⟨fun hlt => by omega, fun _ => by have := (hc (j + 1) y (by simpa using hy) hw).2 (by omega); rwa [show k + (j + 1) = k + 1 + j by omega] at this⟩)
    simpa [stL] using h'
  | x :: r, k, m + 1, L1, L2, h, hc => by
    unfold mL
    rw [List.take_succ_cons]; unfold stL
    refine agreeL (t := t) r (k + 1) m _ _ ?_ (fun j y hy hw => ⟨fun hlt => by have := (hc (j + 1) y (by simpa using hy) hw).1 (by omega); rwa [show k + (j + 1) = k + 1 + j by omega] at this, fun hle => by have := (hc (j + 1) y (by simpa using hy) hw).2 (by omega); rwa [show k + (j + 1) = k + 1 + j by omega] at this⟩)
    cases hs : S k with
    | true => exact effL_at _ _ _ _ h
    | false => rw [cond_false, effL_off _ _ _ (fun hw => by have := (hc 0 x (by simp) hw).1 (by omega); rw [Nat.add_zero, hs] at this; cases this)]; exact h
theorem agreeG {S : Nat → Bool} {t : Nat} : ∀ (l : List Ro) (k m : Nat) (L1 L2 : Ga), L1 t = L2 t → (∀ j y, l[j]? = some y → y.E.wG t → (j < m → S (k + j) = true) ∧ (m ≤ j → S (k + j) = false)) → mG S l k L1 t = stG (l.take m) L2 t
  | [], k, m, L1, L2, h, _ => by simpa [mG, stG] using h
  | x :: r, k, 0, L1, L2, h, hc => by
    unfold mG
    have h' := agreeG (t := t) r (k + 1) 0 (bif S k then x.E.G L1 else L1) L2 (by
      cases hs : S k with
      | false => exact h
      | true => rw [cond_true, show x.E.G L1 t = L1 t from foldG_off _ _ _ (fun hw => by have := (hc 0 x (by simp) hw).2 (Nat.le_refl _); rw [Nat.add_zero, hs] at this; cases this)]; exact h)
      (fun j y hy hw => ⟨fun hlt => by omega, fun _ => by have := (hc (j + 1) y (by simpa using hy) hw).2 (by omega); rwa [show k + (j + 1) = k + 1 + j by omega] at this⟩)
    simpa [stG] using h'
  | x :: r, k, m + 1, L1, L2, h, hc => by
    unfold mG
    rw [List.take_succ_cons]; unfold stG
    refine agreeG (t := t) r (k + 1) m _ _ ?_ (fun j y hy hw => ⟨fun hlt => by have := (hc (j + 1) y (by simpa using hy) hw).1 (by omega); rwa [show k + (j + 1) = k + 1 + j by omega] at this, fun hle => by have := (hc (j + 1) y (by simpa using hy) hw).2 (by omega); rwa [show k + (j + 1) = k + 1 + j by omega] at this⟩)
    cases hs : S k with
    | true => exact foldG_at _ _ _ _ h
    | false => rw [cond_false, show x.E.G L2 t = L2 t from foldG_off _ _ _ (fun hw => by have := (hc 0 x (by simp) hw).1 (by omega); rw [Nat.add_zero, hs] at this; cases this)]; exact h
theorem mL_all {S : Nat → Bool} : ∀ (l : List Ro) (k : Nat) (L : Lo), (∀ j, k ≤ j → j < k + l.length → S j = true) → mL S l k L = stL l L
  | [], k, L, _ => rfl
  | x :: r, k, L, h => by
    unfold mL stL
    rw [h k (Nat.le_refl _) (by simp), cond_true]
    exact mL_all r (k + 1) _ (fun j h1 h2 => h j (by omega) (by simp at h2 ⊢; omega))
theorem mG_all {S : Nat → Bool} : ∀ (l : List Ro) (k : Nat) (L : Ga), (∀ j, k ≤ j → j < k + l.length → S j = true) → mG S l k L = stG l L
  | [], k, L, _ => rfl
  | x :: r, k, L, h => by
    unfold mG stG
    rw [h k (Nat.le_refl _) (by simp), cond_true]
    exact mG_all r (k + 1) _ (fun j h1 h2 => h j (by omega) (by simp at h2 ⊢; omega))
theorem mL_none : ∀ (l : List Ro) (k : Nat) (L : Lo), mL (fun _ => false) l k L = L
  | [], k, L => rfl
  | x :: r, k, L => by unfold mL; exact mL_none r _ L
theorem mG_none : ∀ (l : List Ro) (k : Nat) (L : Ga), mG (fun _ => false) l k L = L
  | [], k, L => rfl
  | x :: r, k, L => by unfold mG; exact mG_none r _ L
/-- How many are still to come. -/
def cnt : List Bool → Nat
  | [] => 0
  | b :: r => (bif b then 0 else 1) + cnt r
theorem cnt_set : ∀ (l : List Bool) (i : Nat), l[i]? = some false → cnt (l.set i true) + 1 = cnt l
  | [], i, h => by simp at h
  | b :: r, 0, h => by simp at h; subst h; simp [cnt]; omega
  | b :: r, i + 1, h => by
    have := cnt_set r i (by simpa using h)
    simp only [List.set_cons_succ, cnt]; omega
theorem cnt_zero : ∀ (l : List Bool) (i : Nat) (b : Bool), cnt l = 0 → l[i]? = some b → b = true
  | [], i, b, _, h => by simp at h
  | c :: r, 0, b, h0, h => by
    simp at h; subst h
    cases c with
    | true => rfl
    | false => simp [cnt] at h0
  | c :: r, i + 1, b, h0, h => cnt_zero r i b (by simp only [cnt] at h0; omega) (by simpa using h)
section
variable {P : Program} {C : Cx}
theorem obs_at {ops : Array Oper} : ∀ {rs : List Ro} {L : Lo} {Γ : Ga} {i : Nat} {x : Ro}, Obs P C ops rs L Γ → rs[i]? = some x → Ob P C ops x (stL (rs.take i) L) (stG (rs.take i) Γ)
  | [], L, Γ, i, x, _, h => by simp at h
  | y :: r, L, Γ, 0, x, h, hi => by simp at hi; subst hi; exact h.1
  | y :: r, L, Γ, i + 1, x, h, hi => by
    rw [List.take_succ_cons]; unfold stL stG
    exact obs_at h.2 (by simpa using hi)
theorem draw_sound {rs : List Ro} {L0 : Lo} {Γ0 : Ga} {ops : Array Oper} (hops : ops = (rs.map (·.o)).toArray) (hok : drawOK rs = true) (hobs : Obs P C ops rs L0 Γ0) {Q : Exit → Act → World → Prop} (hend : TE C (Q .normal) (stL rs L0) (stG rs Γ0)) :
    ∀ (fuel : Nat) (listed : Array Bool) (a : Act) (w : World), listed.size = rs.length → cnt listed.toList ≤ fuel →
      (∀ j o, (rs.map (·.o))[j]? = some o → listed.getD j false = true → ∀ e ∈ o.after, bnds e = true → listed.getD e.on false = true) →
      Reps C (mL (fun i => listed.getD i false) rs 0 L0) (mG (fun i => listed.getD i false) rs 0 Γ0) a w → wpAny P .any ops Q fuel listed a w := by
  have hok' := hok
  unfold drawOK at hok
  simp only [Bool.and_eq_true] at hok
  obtain ⟨⟨⟨hback, hdst⟩, hsel⟩, hpairs⟩ := hok
  rw [← hops] at hpairs
  have hback' : ∀ j x, rs[j]? = some x → ∀ e ∈ x.o.after, bnds e = true → e.on < j := by
    intro j x hx e he hb
    have h1 := List.all_eq_true.1 hback (x, j) (by rw [List.mem_iff_getElem?]; exact ⟨j, by rw [List.getElem?_zipIdx, hx]; simp⟩)
    have h2 := Array.all_eq_true_iff_forall_mem.1 h1 e he
    simpa [hb] using h2
  have hget : ∀ j, ops[j]? = (rs[j]?).map fun x : Ro => x.o := fun j => by rw [hops, List.getElem?_toArray, List.getElem?_map]
  have hall : ∀ listed : Array Bool, listed.size = rs.length → Region.ready .any ops listed = [] → ∀ j, j < rs.length → listed.getD j false = true := by
    intro listed hsz hr j
    induction j using Nat.strongRecOn with
    | _ j ih =>
      intro hj
      cases hl : listed.getD j false with
      | true => rfl
      | false =>
        exfalso
        have hx : rs[j]? = some rs[j] := List.getElem?_eq_getElem hj
        have : j ∈ Region.ready .any ops listed := by
          rw [mem_ready]
          refine ⟨?_, rs[j].o, by rw [hget, hx]; rfl, fun e he hb => ih e.on (hback' j _ hx e he hb) (by have := hback' j _ hx e he hb; omega)⟩
          have hjl : j < listed.size := by rw [hsz]; exact hj
          rw [Array.getD_eq_getD_getElem?, Array.getElem?_eq_getElem hjl] at hl ⊢
          simpa using hl
        rw [hr] at this; cases this
  have hdone : ∀ (listed : Array Bool) a w, listed.size = rs.length → Region.ready .any ops listed = [] → Reps C (mL (fun i => listed.getD i false) rs 0 L0) (mG (fun i => listed.getD i false) rs 0 Γ0) a w → Q .normal a w := by
    intro listed a w hsz hr hreps
    have h1 := hall listed hsz hr
    rw [mL_all rs 0 L0 (fun j _ hj => h1 j (by omega)), mG_all rs 0 Γ0 (fun j _ hj => h1 j (by omega))] at hreps
    exact hend a w hreps
  intro fuel
  induction fuel with
  | zero =>
    intro listed a w hsz hc hcl hreps
    have hr : Region.ready .any ops listed = [] := by
      rw [List.eq_nil_iff_forall_not_mem]
      intro j hj
      obtain ⟨h0, o, ho, _⟩ := mem_ready.1 hj
      have hjl : j < listed.size := by
        rw [hget] at ho
        rw [hsz]
        cases hx : rs[j]? with
        | none => simp [hx] at ho
        | some x => exact (List.getElem?_eq_some_iff.1 hx).1
      have := cnt_zero listed.toList j listed[j] (by omega) (by simp [hjl])
      rw [Array.getD_eq_getD_getElem?, Array.getElem?_eq_getElem hjl] at h0
      simp [this] at h0
    exact ⟨hr, hdone listed a w hsz hr hreps⟩
  | succ fuel ih =>
    intro listed a w hsz hc hcl hreps
    refine ⟨fun hr => hdone listed a w hsz hr hreps, fun i hi => ?_⟩
    obtain ⟨h0, o, ho, hpre⟩ := mem_ready.1 hi
    have hx : ∃ x, rs[i]? = some x ∧ x.o = o := by
      rw [hget] at ho
      cases hx : rs[i]? with
      | none => simp [hx] at ho
      | some x => exact ⟨x, rfl, by simpa [hx] using ho⟩
    obtain ⟨x, hx, rfl⟩ := hx
    have hil : i < rs.length := (List.getElem?_eq_some_iff.1 hx).1
    have his : i < listed.size := by rw [hsz]; exact hil
    have hS0 : listed.getD i false = false := by
      rw [Array.getD_eq_getD_getElem?, Array.getElem?_eq_getElem his] at h0 ⊢
      simpa using h0
    let S : Nat → Bool := fun j => listed.getD j false
    -- the listed set with i, and what it is closed under
    have hclosed : ∀ j, S j = true → ∀ k, ((bmGo (rs.map (·.o)) []).getD j 0).testBit k = true → S k = true := fun j hj k hk =>
      bm_closed (S := fun j => S j = true) (rs.map (·.o)) [] [] rfl (by rw [List.nil_append]; exact hcl) (fun j _ k hk => by simp at hk) j hj k hk
    let listed' := listed.setIfInBounds i true
    have hS' : ∀ j, listed'.getD j false = if j = i then true else S j := by
      intro j
      by_cases e : j = i
      · subst e; simp [listed', his]
      · rw [if_neg e]; simp only [listed', S, Array.getD_eq_getD_getElem?, Array.getElem?_setIfInBounds_ne (Ne.symm e)]
    have hcl' : ∀ j o, (rs.map (·.o))[j]? = some o → listed'.getD j false = true → ∀ e ∈ o.after, bnds e = true → listed'.getD e.on false = true := by
      intro j o hjo hj e he hb
      rw [hS']
      split
      · rfl
      · by_cases e' : j = i
        · subst e'
          have : o = x.o := by simp [hx] at hjo; exact hjo.symm
          subst this
          exact hpre e he hb
        · rw [hS', if_neg e'] at hj
          exact hcl j o hjo hj e he hb
    have hclosed' : ∀ j, listed'.getD j false = true → ∀ k, ((bmGo (rs.map (·.o)) []).getD j 0).testBit k = true → listed'.getD k false = true := fun j hj k hk =>
      bm_closed (S := fun j => listed'.getD j false = true) (rs.map (·.o)) [] [] rfl (by rw [List.nil_append]; exact hcl') (fun j _ k hk => by simp at hk) j hj k hk
    -- which rows clash with i
    have hbefore : ∀ j y, rs[j]? = some y → j < i → clash ops y x = true → S j = true := fun j y hy hlt hc => by
      have h1 := okPairs_spec hpairs rfl j i y x hlt (Nat.zero_le _) (by simpa using hy) (by simpa using hx) hc
      have h2 := hclosed' i (by rw [hS', if_pos rfl]) j h1
      rw [hS', if_neg (by omega)] at h2; exact h2
    have hafter : ∀ j y, rs[j]? = some y → i < j → clash ops x y = true → S j = false := fun j y hy hlt hc => by
      have h1 := okPairs_spec hpairs rfl i j x y hlt (Nat.zero_le _) (by simpa using hx) (by simpa using hy) hc
      cases hs : S j with
      | false => rfl
      | true => have := hclosed j hs i h1; rw [show S i = false from hS0] at this; cases this
    -- what i looks at is what it looks at in the listed order
    have hrT : ∀ t ∈ x.rT ops, mL S rs 0 L0 t = stL (rs.take i) L0 t := fun t ht => by
      refine agreeL rs 0 i L0 L0 rfl fun j y hy ⟨X, hw⟩ => ⟨fun hlt => ?_, fun hle => ?_⟩
      · rw [Nat.zero_add]
        refine hbefore j y hy hlt ?_
        unfold clash
        rw [hw]
        simp only [mem_iff.2 ht, Bool.true_or]
      · rw [Nat.zero_add]
        by_cases e : j = i
        · subst e; exact hS0
        · refine hafter j y hy (by omega) ?_
          unfold clash
          rw [hw]
          simp only [mem_iff.2 ht, Bool.or_true, Bool.true_or]
    have hG : ∀ g, (mem x.G g || mem x.ids g) = true → mG S rs 0 Γ0 g = stG (rs.take i) Γ0 g := fun g hg => by
      refine agreeG rs 0 i Γ0 Γ0 rfl fun j y hy hw => ⟨fun hlt => ?_, fun hle => ?_⟩
      · rw [Nat.zero_add]
        refine hbefore j y hy hlt ?_
        unfold clash
        have : y.ids.any (fun g => mem x.G g || mem x.ids g) = true := List.any_eq_true.2 ⟨g, hw, hg⟩
        simp only [this, Bool.or_true, Bool.true_or]
      · rw [Nat.zero_add]
        by_cases e : j = i
        · subst e; exact hS0
        · refine hafter j y hy (by omega) ?_
          unfold clash
          have : y.ids.any (fun g => mem x.G g || mem x.ids g) = true := List.any_eq_true.2 ⟨g, hw, hg⟩
          simp only [this, Bool.or_true]
    -- the state behind i
    have hxe : rs[i] = x := by have := List.getElem?_eq_getElem hil; rw [hx] at this; injection this with h; exact h.symm
    have hsplit : rs = rs.take i ++ x :: rs.drop (i + 1) := by rw [← hxe, List.getElem_cons_drop hil, List.take_append_drop]
    have hlt : (rs.take i).length = i := by rw [List.length_take]; omega
    have hdropget : ∀ j y, (rs.drop (i + 1))[j]? = some y → rs[i + 1 + j]? = some y := fun j y hy => by rw [List.getElem?_drop] at hy; exact hy
    have hstepL : mL (fun j => listed'.getD j false) rs 0 L0 = x.E.L (mL S rs 0 L0) := by
      conv => lhs; rw [hsplit]
      conv => rhs; rw [hsplit]
      rw [mL_append, mL_append, hlt, Nat.zero_add]
      unfold mL
      rw [show listed'.getD i false = true from by rw [hS', if_pos rfl], show S i = false from hS0, cond_true, cond_false]
      rw [mL_congr (S' := S) (rs.take i) 0 L0 (fun j _ hj => by show listed'.getD j false = _; rw [hS', if_neg (by omega)])]
      rw [mL_congr (S' := S) (rs.drop (i + 1)) (i + 1) _ (fun j hj _ => by show listed'.getD j false = _; rw [hS', if_neg (by omega)])]
      refine mL_past x.E _ _ _ fun j y hy hs t ⟨X, h1⟩ ⟨Y, h2⟩ => ?_
      have := hafter (i + 1 + j) y (hdropget j y hy) (by omega) (by unfold clash; rw [h1, h2]; simp only [Nat.beq_refl, Bool.or_true, Bool.true_or])
      rw [this] at hs; cases hs
    have hstepG : mG (fun j => listed'.getD j false) rs 0 Γ0 = x.E.G (mG S rs 0 Γ0) := by
      conv => lhs; rw [hsplit]
      conv => rhs; rw [hsplit]
      rw [mG_append, mG_append, hlt, Nat.zero_add]
      unfold mG
      rw [show listed'.getD i false = true from by rw [hS', if_pos rfl], show S i = false from hS0, cond_true, cond_false]
      rw [mG_congr (S' := S) (rs.take i) 0 Γ0 (fun j _ hj => by show listed'.getD j false = _; rw [hS', if_neg (by omega)])]
      rw [mG_congr (S' := S) (rs.drop (i + 1)) (i + 1) _ (fun j hj _ => by show listed'.getD j false = _; rw [hS', if_neg (by omega)])]
      refine mG_past x.E _ _ _ fun j y hy hs g h1 h2 => ?_
      have := hafter (i + 1 + j) y (hdropget j y hy) (by omega) (by
        unfold clash
        have : x.ids.any (fun g => mem y.G g || mem y.ids g) = true := List.any_eq_true.2 ⟨g, h1, by simp only [(mem_iff (l := y.ids)).2 h2, Bool.or_true]⟩
        simp only [this, Bool.or_true, Bool.true_or])
      rw [this] at hs; cases hs
    have hcnt : cnt listed'.toList ≤ fuel := by
      have h1 : listed.toList[i]? = some false := by
        simp only [Array.getElem?_toList]
        rw [Array.getElem?_eq_getElem his]
        rw [Array.getD_eq_getD_getElem?, Array.getElem?_eq_getElem his] at hS0
        simpa using hS0
      have h2 := cnt_set listed.toList i h1
      simp only [listed', Array.toList_setIfInBounds]
      omega
    have next : ∀ a' w', Reps C (x.E.L (mL S rs 0 L0)) (x.E.G (mG S rs 0 Γ0)) a' w' → wpAny P .any ops Q fuel listed' a' w' := fun a' w' hr => by
      refine ih listed' a' w' (by simp [listed', hsz]) hcnt hcl' ?_
      rw [hstepL, hstepG]; exact hr
    have hpinL : pin (stL (rs.take i) L0) (x.rT ops) (mL S rs 0 L0) = mL S rs 0 L0 := pin_eq hrT
    have hpinG : pin (stG (rs.take i) Γ0) x.G (mG S rs 0 Γ0) = mG S rs 0 Γ0 := pin_eq fun g hg => hG g (by simp only [mem_iff.2 hg, Bool.true_or])
    have hob := obs_at hobs hx
    unfold wpOp
    rw [ho]
    dsimp only
    unfold Ob at hob
    cases hgd : x.o.guard with
    | none =>
      rw [hgd] at hob
      have hot := hob (mL S rs 0 L0) (mG S rs 0 Γ0)
      simp only [hpinL, hpinG] at hot
      have hw : Region.wanted x.o (yielded ops a.tmps) = true := by unfold Region.wanted; rw [hgd]
      rw [if_pos hw]
      exact .inl (wp_weak (hot a w hreps) next)
    | some gw =>
      obtain ⟨j, want⟩ := gw
      rw [hgd] at hob
      obtain ⟨ρ, hreps'⟩ := hreps
      rcases hob with ⟨t, d, h1, h2, h3, k1, k2, k3⟩ | hob
      · have h3' : evv (mL S rs 0 L0) (.tmp t) = some undef := by
          have : ev (mL S rs 0 L0) (.tmp t) = ev (stL (rs.take i) L0) (.tmp t) := hrT t (mem_iff.1 h2)
          unfold evv at h3 ⊢
          rw [this]; exact h3
        rw [if_neg (by rw [wanted_undef hreps' hgd h1 h3']; simp)]
        refine next _ _ ?_
        rw [k1, k3]
        exact ⟨ρ, hreps'.put (by simpa using k2) rfl (fun g hg => by simp [AV.id] at hg)⟩
      obtain ⟨t, b, h1, h2, h3, h4, h5⟩ := hob
      have h3' : evv (mL S rs 0 L0) (.tmp t) = some (.bool b) := by
        have : ev (mL S rs 0 L0) (.tmp t) = ev (stL (rs.take i) L0) (.tmp t) := hrT t (mem_iff.1 h2)
        unfold evv at h3 ⊢
        rw [this]; exact h3
      have hw := wanted_of hreps' hgd h1 h3' (by simpa using h4)
      rw [hw]
      by_cases e : b = want
      · rw [if_pos (by simp [e])]
        rw [if_pos e] at h5
        have hot := h5 (mL S rs 0 L0) (mG S rs 0 Γ0)
        simp only [hpinL, hpinG] at hot
        exact .inl (wp_weak (hot a w ⟨ρ, hreps'⟩) next)
      · rw [if_neg (by simp [e])]
        rw [if_neg e] at h5
        obtain ⟨d, k1, k2, k3⟩ := h5
        refine next _ _ ?_
        rw [k1, k3]
        exact ⟨ρ, hreps'.put (by simpa using k2) rfl (fun g hg => by simp [AV.id] at hg)⟩
theorem reps_drawn {L : Lo} {Γ : Ga} {a : Act} {w : World} (h : Reps C L Γ a w) : Reps C L Γ a { w with drawn := w.drawn + 1 } := by
  obtain ⟨ρ, h⟩ := h
  exact ⟨ρ, h.ext ⟨rfl, rfl, rfl, Nat.le_refl _, fun _ _ => rfl⟩⟩
/-- A region that draws its order, walked in the listed order. -/
theorem TC.draw {L : Lo} {Γ : Ga} {Q : Exit → Act → World → Prop} {id : Nat} {l : List Oper} (hm : P.follows .mixedOrders = true) (rs : List Ro) (hl : l = rs.map (·.o)) (hobs : Obs P C l.toArray rs L Γ) (hok : drawOK rs = true) (hend : TE C (Q .normal) (stL rs L) (stG rs Γ)) :
    TC P C (.region id l.toArray true) Q L Γ := fun a w hr => by
  refine wp_region_any hm ?_
  refine draw_sound (by rw [hl]) hok hobs hend _ _ a _ (by rw [hl]; simp) ?_ (fun j o _ hj => ?_) ?_
  · have : ∀ n, cnt (List.replicate n false) = n := fun n => by induction n with
      | zero => rfl
      | succ n ih => rw [List.replicate_succ]; simp only [cnt, ih, cond_false]; omega
    simp [this]
  · rw [Array.getD_eq_getD_getElem?, Array.getElem?_replicate] at hj
    split at hj <;> simp at hj
  · have h0 : (fun i => (Array.replicate l.toArray.size false).getD i false) = fun _ => false := by
      funext i
      rw [Array.getD_eq_getD_getElem?, Array.getElem?_replicate]
      split <;> rfl
    rw [h0, mL_none, mG_none]
    exact reps_drawn hr
end
end Go.Proofs.YtdjcclcejmeheaaGreat.Pl
end
section
namespace Go.Proofs.YtdjcclcejmeheaaGreat.Pl
set_option linter.unusedVariables false
set_option linter.unusedSimpArgs false
open Go.RowKit
section
variable {P : Program} {C : Cx} {L : Lo} {Γ : Ga} {d : Nat} {ty : TypeId} {pos : String} {af : Array Edge} {gd : Option (Nat × Bool)}
theorem OT.append0 {t e sz by_ m : Nat} {s x : Operand} {ds : List DV} {A : AV} (g : Nat) (hn : Nat.blt d C.n = true) (hs : evv L s = some (.slice none 0 0)) (hg : Γ g = none) (ht : apt P t = some (e, sz, by_))
    (hx : ev L x = some A) (hA : rdv Γ A = some (.sl sz m ds)) (hok : okr Γ A) (h1 : ds.all DV.one = true) (hbig : m * by_ ≤ 140737488355328) (hmax : m ≤ 1099511627776) :
    OT P C ⟨some d, .call { callee := .builtin .append, args := #[s, x], argTypes := #[t, t] }, ty, pos, af, gd⟩ L Γ (upd L d (.ow g m sz)) (upd Γ g (.row e sz ds)) :=
  OT.turns fun ρ a w h => by
    obtain ⟨hu, i, z, hi, hz, hsz, hby, hzs, h0⟩ := apt_parts ht
    have hev := evv_eval h hs
    have key : ∃ v' w' vs, (Builtin.append_ #[t, t] ty #[a.eval s, a.eval x]).run P w = .ok v' w' ∧ w'.ownsRow w.heap.size e sz v' m vs ∧ w.grownBy w' none ∧ repL (KK C.K0 ρ Γ) w ds vs := by
      rw [hev]
      rcases src_vals h hx hA hok with ⟨hxv, rfl, rfl⟩ | ⟨b, o, c, vs, hxv, q1, q2, q3, q4⟩
      · rw [hxv]
        exact ⟨_, w, [], run_append_owned_none w w.heap.size _ _ _ i sz hu hi _ 0 [] (World.ownsRow_nil w _ _ _), World.ownsRow_nil w _ _ _, ⟨rfl, rfl, rfl, Nat.le_refl _, fun _ _ _ => rfl⟩, by simp [repL]⟩
      · rw [hxv]
        obtain ⟨v', w', r1, r2, r3, _⟩ := run_append_own_at (P := P) w w.heap.size t ty e i z sz by_ hu hi hz hsz hby hzs h0 (.slice none 0 0) 0 [] (World.ownsRow_nil w _ _ _) ⟨b, o, none⟩ m c vs q2 q3 q4 (by unfold maxLen; omega) (by rw [Nat.zero_add]; exact hbig) (Nat.le_refl _)
        exact ⟨v', w', vs, r1, by simpa using r2, r3, q1⟩
    obtain ⟨v', w', vs, r1, r2, r3, r4⟩ := key
    refine ⟨v', w', by simp only [execOp, resolve, invoke, builtin, Sem.run_bind, Sem.run_pure, Result.andThen_ok, List.map_toArray, List.map_cons, List.map_nil, r1], ?_⟩
    have hones : ∀ x ∈ vs, x.oneCell' = true := all_one_of r4 h1
    obtain ⟨ρ', hr, hρ', hk⟩ := h.gain (g := g) (ob := none) (ob' := v'.ownBlock) (o' := .row e sz ds) (w' := w') (Γ1 := Γ) hg (fun _ _ h _ => h) (fun _ h => h) (fun b g' e => by cases e) (fun b e => by cases e) r3
      (fun b eb => ⟨.inr (World.ownsRow.lt r2 b eb).1, (World.ownsRow.lt r2 b eb).2⟩) (by simp) rfl (fun K hK _ => (owns_row r2 (repL_mono hK _ _ r4) hones).1)
    refine ⟨ρ', hr.put (by simpa using hn) (fun ob' hob => ?_) (fun g1 hg1 => ?_)⟩
    · rw [hρ'] at hob; cases hob
      exact (owns_row r2 (repL_mono hk _ _ r4) hones).2
    · cases hg1; rw [upd_same]; simp
def plN (sz : Nat) : Nat → Nat → List (Nat × Nat)
  | _, 0 => []
  | i, n + 1 => (i * sz, sz) :: plN sz (i + 1) n
theorem plN_get (sz : Nat) : ∀ (n k i : Nat) (x : Nat × Nat), (plN sz k n)[i]? = some x → x = ((k + i) * sz, sz)
  | 0, k, i, x, h => by simp [plN] at h
  | n + 1, k, 0, x, h => by simp [plN] at h; simp [h]
  | n + 1, k, i + 1, x, h => by
    have := plN_get sz n (k + 1) i x (by simpa [plN] using h)
    rw [this]; congr 2; omega
def zrow (zs : List Value) : Nat → List Value
  | 0 => []
  | n + 1 => zs ++ zrow zs n
theorem zrow_len (zs : List Value) : ∀ n, (zrow zs n).length = n * zs.length
  | 0 => by simp [zrow]
  | n + 1 => by rw [zrow, List.length_append, zrow_len zs n, Nat.succ_mul, Nat.add_comm]
theorem zrow_get (zs : List Value) (h : 0 < zs.length) : ∀ (n i : Nat), i < n * zs.length → (zrow zs n)[i]? = zs[i % zs.length]?
  | 0, i, hi => by simp at hi
  | n + 1, i, hi => by
    rw [zrow]
    by_cases hlt : i < zs.length
    · rw [List.getElem?_append_left hlt, Nat.mod_eq_of_lt hlt]
    · rw [List.getElem?_append_right (by omega), zrow_get zs h n (i - zs.length) (by rw [Nat.succ_mul] at hi; omega)]
      rw [Nat.mod_eq_sub_mod (by omega : i ≥ zs.length)]
theorem zrow_eq (z : Array Value) (h : 0 < z.size) (n : Nat) : ((Array.range (n * z.size)).map (fun i => z[i % z.size]!)).toList = zrow z.toList n := by
  apply List.ext_getElem?
  intro i
  by_cases hi : i < n * z.size
  · rw [zrow_get z.toList (by simpa using h) n i (by simpa using hi)]
    have hm : i % z.size < z.size := Nat.mod_lt _ h
    simp [hi, hm]
  · rw [List.getElem?_eq_none (by simp; omega), List.getElem?_eq_none (by rw [zrow_len]; simp; omega)]
theorem OT.buildsl {t e sz by_ len : Nat} {ps : List (Nat × Operand)} {Xs : List (Nat × DV)} {zs : List Value} {ds : List DV} (g : Nat) (hn : Nat.blt d C.n = true) (hg : Γ g = none) (hx : evP L ps = some Xs) (ht : apt P t = some (e, sz, by_)) (hz : zc P e = some zs) (h1 : zs.all Value.oneCell' = true)
    (hsz : (Nat.blt 0 (len * sz) && Nat.ble (len * sz) 16777216) = true) (hb : bldD (plN sz 0 len) ((zrow zs len).map .v) Xs = some ds) :
    OT P C ⟨some d, .buildSlice t len ps.toArray, ty, pos, af, gd⟩ L Γ (upd L d (.ow g len sz)) (upd Γ g (.row e sz ds)) :=
  OT.turns fun ρ a w h => by
    obtain ⟨hu, i, z, hi, hzi, hsi, hby, hzs, h0⟩ := apt_parts ht
    simp only [Bool.and_eq_true, Nat.blt_eq, Nat.ble_eq] at hsz
    have hzc : z.cells.toList = zs := by
      unfold zc at hz; rw [hi] at hz; simp [hzi] at hz; exact hz
    have hzl : zs.length = sz := by rw [← hzc]; simpa using hzs
    have h1' := List.all_eq_true.1 h1
    have hrow : ((Array.range (len * sz)).map (fun i => z.cells[i % z.cells.size]!)).toList = zrow zs len := by
      have := zrow_eq z.cells (by omega) len
      rw [hzs, hzc] at this
      rw [hzs]; exact this
    have hmemz : ∀ (n : Nat), ∀ u ∈ zrow zs n, u.oneCell' = true := fun n => by
      induction n with
      | zero => intro u hu; cases hu
      | succ n ih => intro u hu; rw [zrow] at hu; exact (List.mem_append.1 hu).elim (h1' u) (ih u)
    obtain ⟨r, k1, k2, k3⟩ := fill_bld (K := KK C.K0 ρ Γ) (w := w) (place := fun i => some (i * sz, sz)) (fun i x hx => by rw [plN_get sz len 0 i x hx, Nat.zero_add]) Xs (ps.map fun (i, x) => (i, a.eval x)) _ ds ((Array.range (len * sz)).map (fun i => z.cells[i % z.cells.size]!)) (evP_rep h hx) (by rw [hrow]; exact repL_v _) (by rw [hrow]; exact hmemz len) hb
    have hrun : (Instr.buildSlice t len (ps.toArray.map fun (i, x) => (i, a.eval x))).run P w = .ok (.slice (some ⟨w.heap.size, 0, none⟩) len len) (w.alloc (.cells r e)) := by
      have hnz : ¬ (len * sz = 0) := by omega
      have hnb : ¬ (16777216 < len * sz) := by omega
      have hlen0 : len ≠ 0 := by intro e; subst e; simp at hnz
      have hsz0 : sz ≠ 0 := by omega
      simp [Instr.buildSlice, run_underlying hu, sizeOf, typeInfo, hi, hsi, zeroValue, hzi, hnb, hnz, hlen0, hsz0, k1, newRow]
    refine ⟨_, _, by simp only [execOp, Sem.run_bind, hrun, Result.andThen_ok, Sem.run_pure]; rfl, ?_⟩
    have hlr : r.toList.length = ds.length := repL_length k2
    have hdl : r.size = len * sz := by
      have : ∀ (parts : List (Nat × DV)) (cs ds : List DV), bldD (plN sz 0 len) cs parts = some ds → ds.length = cs.length := by
        intro parts
        induction parts with
        | nil => intro cs ds h; simp only [bldD, Option.some.injEq] at h; rw [h]
        | cons p q ih =>
          intro cs ds h
          obtain ⟨i, X⟩ := p
          unfold bldD at h
          cases hpl : (plN sz 0 len)[i]? with
          | none => simp [hpl] at h
          | some y =>
            simp only [hpl] at h
            cases hc : (Nat.beq X.cells.length y.2 && Nat.ble (y.1 + y.2) cs.length && X.cells.all DV.one) with
            | false => rw [hc] at h; simp at h
            | true =>
              rw [hc, cond_true] at h
              simp only [Bool.and_eq_true, Nat.beq_eq, Nat.ble_eq] at hc
              rw [ih _ _ h, splice_length (by omega)]
      have h2 := this Xs _ ds hb
      rw [List.length_map, zrow_len, hzl] at h2
      rw [← h2, ← hlr]; simp
    obtain ⟨ρ', hr, hρ, hk⟩ := h.fresh (g := g) (b := w.heap.size) (o' := .row e sz ds) hg (grown_alloc w (.cells r e)) ⟨Nat.le_refl _, by simp⟩ (by simp) rfl
      (fun K hK _ => .inr ⟨w.heap.size, r.toList, len, rfl, by rw [Array.toArray_toList]; exact heap_alloc_new _ _, by simpa using hdl, by unfold maxLen; have := Nat.le_mul_of_pos_right len h0; omega, by rw [hlr]; exact Nat.le_refl _, by rw [← hlr, List.take_length]; exact repL_mono hK _ _ k2, by rw [← hlr, List.take_length]; exact k3⟩)
    refine ⟨ρ', hr.put (by simpa using hn) (fun ob hob => ?_) (fun g' hg' => ?_)⟩
    · rw [hρ] at hob; cases hob
      refine .inr ⟨_, len, rfl, rfl, Nat.le_refl _, by unfold maxLen; have := Nat.le_mul_of_pos_right len h0; omega, ?_⟩
      unfold bsz; rw [heap_alloc_new]; exact hdl.symm
    · cases hg'; rw [upd_same]; simp
def ukd (P : Program) (t : TypeId) : Option IntKind := match P.underlying t with | some (.int k) => some k | _ => none
theorem OT.convi {src dst : TypeId} {x : Operand} {k k' : IntKind} {n : Int} (hn : Nat.blt d C.n = true) (hx : evv L x = some (.int k n)) (hs : ukd P src = some k) (hd : ukd P dst = some k') :
    OT P C ⟨some d, .convert src dst x, ty, pos, af, gd⟩ L Γ (upd L d (.f (.v (.int k' (k'.wrap n))))) Γ :=
  OT.value hn (fun g hg => by simp [AV.id] at hg) fun ρ a w h => by
    have h1 : P.underlying dst = some (.int k') := by
      unfold ukd at hd; split at hd <;> simp_all
    have h2 : P.underlying src = some (.int k) := by
      unfold ukd at hs; split at hs <;> simp_all
    exact ⟨_, by simp [execOp, evv_eval h hx, convert, run_underlying h1, run_underlying h2, Conv.intToInt], rfl⟩
theorem OT.conviv {src dst : TypeId} {x : Operand} {k k' : IntKind} {n : Int} (m : Int) (hn : Nat.blt d C.n = true) (hx : evv L x = some (.int k n)) (hs : ukd P src = some k) (hd : ukd P dst = some k') (hm : k'.wrap n = m) :
    OT P C ⟨some d, .convert src dst x, ty, pos, af, gd⟩ L Γ (upd L d (.f (.v (.int k' m)))) Γ := hm ▸ OT.convi hn hx hs hd
theorem OT.max2 {x y : Operand} {at_ : Array TypeId} {k : IntKind} {p q : Int} (hn : Nat.blt d C.n = true) (hx : evv L x = some (.int k p)) (hy : evv L y = some (.int k q)) :
    OT P C ⟨some d, .call { callee := .builtin .max, args := #[x, y], argTypes := at_ }, ty, pos, af, gd⟩ L Γ (upd L d (.f (.v (.int k (max p q))))) Γ :=
  OT.value hn (fun g hg => by simp [AV.id] at hg) fun ρ a w h => ⟨.int k (max p q), by
    have : (if q > p then q else p) = max p q := by rw [Int.max_def]; split <;> split <;> omega
    simp [execOp, resolve, invoke, builtin, evv_eval h hx, evv_eval h hy, Builtin.max_, Builtin.max2]
    exact this, rfl⟩
theorem OT.min2 {x y : Operand} {at_ : Array TypeId} {k : IntKind} {p q : Int} (hn : Nat.blt d C.n = true) (hx : evv L x = some (.int k p)) (hy : evv L y = some (.int k q)) :
    OT P C ⟨some d, .call { callee := .builtin .min, args := #[x, y], argTypes := at_ }, ty, pos, af, gd⟩ L Γ (upd L d (.f (.v (.int k (min p q))))) Γ :=
  OT.value hn (fun g hg => by simp [AV.id] at hg) fun ρ a w h => ⟨.int k (min p q), by
    have : (if q < p then q else p) = min p q := by rw [Int.min_def]; split <;> split <;> omega
    simp [execOp, resolve, invoke, builtin, evv_eval h hx, evv_eval h hy, Builtin.min_, Builtin.min2]
    exact this, rfl⟩
end
end Go.Proofs.YtdjcclcejmeheaaGreat.Pl
end
section
namespace Go.Proofs.YtdjcclcejmeheaaGreat.Pl
set_option linter.unusedVariables false
set_option linter.unusedSimpArgs false
open Go.RowKit
section
variable {P : Program} {C : Cx} {L : Lo} {Γ : Ga} {d : Nat} {ty : TypeId} {pos : String} {af : Array Edge} {gd : Option (Nat × Bool)}
theorem OT.shr {xt yt : TypeId} {x y : Operand} {k k' : IntKind} {n c : Int} (v : Int) (hn : Nat.blt d C.n = true) (hx : evv L x = some (.int k n)) (hy : evv L y = some (.int k' c)) (hc : 0 ≤ c) (hv : n.fdiv (2 ^ (min c.toNat k.bits)) = v) :
    OT P C ⟨some d, .binOp .shr xt x y yt, ty, pos, af, gd⟩ L Γ (upd L d (.f (.v (.int k v)))) Γ :=
  OT.value hn (fun g hg => by simp [AV.id] at hg) fun ρ a w hr => ⟨.int k v, by
    have h1 : ¬ c < 0 := by omega
    simp [execOp, evv_eval hr hx, evv_eval hr hy, eqGuard, binOp, Op.shift, h1, hv], rfl⟩
end
theorem reps_freeze {C : Cx} {L : Lo} {Γ : Ga} {a : Act} {w : World} (t : Nat) {g n sz e : Nat} {cs : List DV} (ht : L t = some (.ow g n sz)) (hg : Γ g = some (.row e sz cs)) (hl : cs.length = n * sz) (h : Reps C L Γ a w) : Reps C (upd L t (.d (.sl sz n cs))) (upd Γ g .dead) a w := by
  obtain ⟨ρ, h⟩ := h
  obtain ⟨ob, h1, h2⟩ := h.obj g _ hg (by simp)
  classical
  let ρ' : Rho := fun x => if x = g then none else ρ x
  have r1 : ∀ x y, ρ' x = some y → x ≠ g ∧ ρ x = some y := fun x y hx => by
    by_cases e : x = g
    · simp [ρ', e] at hx
    · simp [ρ', e] at hx; exact ⟨e, hx⟩
  have hlv : ∀ x, live (upd Γ g .dead) x → x ≠ g ∧ live Γ x := fun x ⟨o, p, q⟩ => by
    rcases upd_some p with ⟨_, e⟩ | ⟨hne, p⟩
    · exact absurd e q
    · exact ⟨hne, o, p, q⟩
  have hk : Keeps (KK C.K0 ρ Γ) (KK C.K0 ρ' (upd Γ g .dead)) w w := fun b hb hn => ⟨rfl, hb, fun x => hn (x.elim .inl fun ⟨x, p, q⟩ => .inr ⟨x, (hlv x p).2, (r1 x _ q).2⟩)⟩
  refine ⟨ρ', h.df, h.sz, h.k0, h.fr, fun x hx => ?_, fun s X x hs hX => ?_, fun x b hb => h.lt x b (r1 x _ hb).2, fun x y b p q l1 l2 => h.inj x y b (r1 x _ p).2 (r1 y _ q).2 (hlv x l1).2 (hlv y l2).2, fun x b o k1 k2 k3 p => (upd_some k1).elim (fun e => absurd e.2 k2) (fun e => h.new x b o e.2 k2 k3 (r1 x _ p).2), fun x o k oo k1 k3 p => (upd_some k1).elim (fun e => by rw [e.2] at k3; cases k3) (fun e => h.len x o k oo e.2 k3 (r1 x _ p).2), fun x o p q => ?_, fun s X hs => ?_⟩
  · by_cases e : x = g
    · simp [ρ', e]
    · have : ¬ live Γ x := fun ⟨o, p, q⟩ => hx ⟨o, by rw [upd_other _ _ _ _ e]; exact p, q⟩
      simp [ρ', e, h.dom x this]
  · by_cases e : x = g
    · subst e; rw [upd_same]; simp
    · rw [upd_other _ _ _ _ e]
      rcases upd_some hs with ⟨_, rfl⟩ | ⟨_, hs⟩
      · simp [AV.id] at hX
      · exact h.ment s X x hs hX
  · rcases upd_some p with ⟨_, e⟩ | ⟨hne, p⟩
    · exact absurd e q
    · obtain ⟨oo, k1, k2⟩ := h.obj x o p q
      exact ⟨oo, by simp [ρ', hne, k1], AO.rep_mono hk (fun _ _ => rfl) o k2⟩
  · rcases upd_some hs with ⟨rfl, rfl⟩ | ⟨_, hs⟩
    · show DV.rep _ _ _ _
      unfold DV.rep
      rcases h.slot s _ ht ob h1 with ⟨rfl, k1, rfl⟩ | ⟨b, c, rfl, k1, k2, k3, k4⟩
      · exact .inl ⟨k1, rfl, List.eq_nil_of_length_eq_zero (by rw [hl]; simp)⟩
      · refine .inr ⟨b, 0, c, k1, k2, k3, hl, .inr ⟨h.lt g b h1, ?_⟩, ?_⟩
        · rintro (x | ⟨x, p, q⟩)
          · have k0 := h.k0 b x; have := k0.1; have := h.new g b _ hg (by simp) rfl h1; omega
          · exact (hlv x p).1 (h.inj x g b (r1 x _ q).2 h1 (hlv x p).2 ⟨_, hg, by simp⟩)
        · obtain ⟨us, q1, q2, q3⟩ := repAt_vals (row_cells h2)
          exact repAt_of_cells (repL_mono hk _ _ q1) q2 q3
    · have hX := h.slot s X hs
      cases X with
      | d X => exact DV.rep_mono hk X _ hX
      | f X => exact DV.rep_mono (hk.widen (J := fun b => b < C.w0.heap.size)) X _ hX
      | ptr x o => exact fun ob hob => hX ob (r1 x _ hob).2
      | bs x o n s => exact fun ob hob => hX ob (r1 x _ hob).2
      | ow x n s => exact fun ob hob => hX ob (r1 x _ hob).2
theorem TL.freeze {P : Program} {C : Cx} {L : Lo} {Γ : Ga} {ops : Array Oper} {Q : Exit → Act → World → Prop} {rest : List Oper} (t : Nat) {g n sz e : Nat} {cs : List DV} (ht : L t = some (.ow g n sz)) (hg : Γ g = some (.row e sz cs)) (hl : cs.length = n * sz) (k : TL P C ops Q rest (upd L t (.d (.sl sz n cs))) (upd Γ g .dead)) : TL P C ops Q rest L Γ :=
  fun a w h => k a w (reps_freeze t ht hg hl h)
theorem TE.freeze {C : Cx} {L : Lo} {Γ : Ga} {R : Act → World → Prop} (t : Nat) {g n sz e : Nat} {cs : List DV} (ht : L t = some (.ow g n sz)) (hg : Γ g = some (.row e sz cs)) (hl : cs.length = n * sz) (k : TE C R (upd L t (.d (.sl sz n cs))) (upd Γ g .dead)) : TE C R L Γ :=
  fun a w h => k a w (reps_freeze t ht hg hl h)
def vals : List DV → Option (List Value)
  | [] => some []
  | .v u :: r => (vals r).map (u :: ·)
  | _ => none
def pv : DV → Option Value
  | .v u => some u
  | .ag cs => (vals cs).map fun us => .agg us.toArray
  | _ => none
def pvs : List DV → Option (List Value)
  | [] => some []
  | X :: r => match pv X, pvs r with
    | some u, some l => some (u :: l)
    | _, _ => none
theorem vals_rep {K : Nat → Prop} {w : World} : ∀ {cs : List DV} {us vs : List Value}, vals cs = some us → (repL K w cs vs ↔ vs = us)
  | [], us, vs, h => by simp [vals] at h; subst h; simp [repL]
  | .v u :: r, us, vs, h => by
    simp only [vals] at h
    cases hr : vals r with
    | none => simp [hr] at h
    | some l =>
      simp [hr] at h; subst h
      have ih := fun vs => vals_rep (K := K) (w := w) (vs := vs) hr
      unfold repL
      constructor
      · rintro ⟨x, t, rfl, h1, h2⟩
        simp only [DV.rep] at h1
        rw [h1, (ih t).1 h2]
      · rintro rfl; exact ⟨u, l, rfl, rfl, (ih l).2 rfl⟩
  | .sl .. :: r, us, vs, h => by simp [vals] at h
  | .el .. :: r, us, vs, h => by simp [vals] at h
  | .ag .. :: r, us, vs, h => by simp [vals] at h
  | .tp .. :: r, us, vs, h => by simp [vals] at h
  | .fn .. :: r, us, vs, h => by simp [vals] at h
theorem pv_rep {K : Nat → Prop} {w : World} {X : DV} {u v : Value} (h : pv X = some u) : X.rep K w v ↔ v = u := by
  cases X <;> simp [pv] at h
  · subst h; simp [DV.rep]
  · obtain ⟨us, h1, rfl⟩ := h
    simp only [DV.rep]
    constructor
    · rintro ⟨vs, rfl, h2⟩; rw [(vals_rep h1).1 h2]
    · rintro rfl; exact ⟨us, rfl, (vals_rep h1).2 rfl⟩
theorem pvs_rep {K : Nat → Prop} {w : World} : ∀ {Xs : List DV} {us vs : List Value}, pvs Xs = some us → repL K w Xs vs → vs = us
  | [], us, vs, h, hr => by simp [pvs] at h; subst h; simpa [repL] using hr
  | X :: r, us, vs, h, hr => by
    unfold pvs at h
    cases h1 : pv X with
    | none => simp [h1] at h
    | some u =>
      cases h2 : pvs r with
      | none => simp [h1, h2] at h
      | some l =>
        simp only [h1, h2, Option.some.injEq] at h; subst h
        unfold repL at hr
        obtain ⟨x, t, rfl, h3, h4⟩ := hr
        rw [(pv_rep h1).1 h3, pvs_rep h2 h4]
/-- A contract that is said of values. -/
theorem pf_plain {P : Program} {f : FuncId} {Xs : List DV} {Y : DV} {us : List Value} {u : Value} (hX : pvs Xs = some us) (hY : pv Y = some u) (hc : ∀ w, Calls P f us.toArray w fun e w' => e = .returned u ∧ Below w.heap.size w w') : PF P f Xs Y := fun w vs hr => by
  rw [pvs_rep hX hr]
  exact (hc w).mono fun e w' ⟨h1, h2⟩ => ⟨u, h1, h2, fun K _ => (pv_rep hY).2 rfl⟩
end Go.Proofs.YtdjcclcejmeheaaGreat.Pl
end
section
namespace Go.Proofs.YtdjcclcejmeheaaGreat.Pl
set_option linter.unusedVariables false
set_option linter.unusedSimpArgs false
open Go.RowKit
section
variable {P : Program} {C : Cx} {L : Lo} {Γ : Ga} {d : Nat} {ty : TypeId} {pos : String} {af : Array Edge} {gd : Option (Nat × Bool)}
theorem OT.rem {xt yt : TypeId} {x y : Operand} {k : IntKind} {a b : Int} (m : Int) (hn : Nat.blt d C.n = true) (hx : evv L x = some (.int k a)) (hy : evv L y = some (.int k b)) (hb : b ≠ 0) (hm : a.tmod b = m) :
    OT P C ⟨some d, .binOp .rem xt x y yt, ty, pos, af, gd⟩ L Γ (upd L d (.f (.v (.int k m)))) Γ :=
  OT.value hn (fun g hg => by simp [AV.id] at hg) fun ρ a w hr => ⟨.int k m, by simp [execOp, evv_eval hr hx, evv_eval hr hy, eqGuard, binOp, Op.intDiv, hb, hm], rfl⟩
theorem OT.quo {xt yt : TypeId} {x y : Operand} {k : IntKind} {a b : Int} (m : Int) (hn : Nat.blt d C.n = true) (hx : evv L x = some (.int k a)) (hy : evv L y = some (.int k b)) (hb : b ≠ 0) (hm : k.wrap (a.tdiv b) = m) :
    OT P C ⟨some d, .binOp .quo xt x y yt, ty, pos, af, gd⟩ L Γ (upd L d (.f (.v (.int k m)))) Γ :=
  OT.value hn (fun g hg => by simp [AV.id] at hg) fun ρ a w hr => ⟨.int k m, by simp [execOp, evv_eval hr hx, evv_eval hr hy, eqGuard, binOp, Op.intDiv, hb, hm], rfl⟩
def bitF : BinOp → (k : IntKind) → Int → Int → Option Int
  | .and, k, a, b => some (k.wrap (BitVec.ofInt k.bits a &&& BitVec.ofInt k.bits b).toNat)
  | .or, k, a, b => some (k.wrap (BitVec.ofInt k.bits a ||| BitVec.ofInt k.bits b).toNat)
  | .xor, k, a, b => some (k.wrap (BitVec.ofInt k.bits a ^^^ BitVec.ofInt k.bits b).toNat)
  | .andNot, k, a, b => some (k.wrap (BitVec.ofInt k.bits a &&& ~~~BitVec.ofInt k.bits b).toNat)
  | _, _, _, _ => none
theorem OT.bits {op : BinOp} {xt yt : TypeId} {x y : Operand} {k : IntKind} {a b r : Int} (m : Int) (hn : Nat.blt d C.n = true) (hx : evv L x = some (.int k a)) (hy : evv L y = some (.int k b)) (hr : bitF op k a b = some r) (hm : r = m) :
    OT P C ⟨some d, .binOp op xt x y yt, ty, pos, af, gd⟩ L Γ (upd L d (.f (.v (.int k m)))) Γ := by
  subst hm
  refine OT.value hn (fun g hg => by simp [AV.id] at hg) fun ρ a w h => ⟨.int k r, ?_, rfl⟩
  unfold bitF at hr
  split at hr <;> first | (simp only [Option.some.injEq] at hr; subst hr; simp [execOp, evv_eval h hx, evv_eval h hy, eqGuard, binOp, Op.intBits]; done) | cases hr
theorem OT.shl {xt yt : TypeId} {x y : Operand} {k k' : IntKind} {n c : Int} (v : Int) (hn : Nat.blt d C.n = true) (hx : evv L x = some (.int k n)) (hy : evv L y = some (.int k' c)) (hc : 0 ≤ c) (hv : k.wrap (n * 2 ^ (min c.toNat k.bits)) = v) :
    OT P C ⟨some d, .binOp .shl xt x y yt, ty, pos, af, gd⟩ L Γ (upd L d (.f (.v (.int k v)))) Γ :=
  OT.value hn (fun g hg => by simp [AV.id] at hg) fun ρ a w hr => ⟨.int k v, by
    have h1 : ¬ c < 0 := by omega
    simp [execOp, evv_eval hr hx, evv_eval hr hy, eqGuard, binOp, Op.shift, h1, hv], rfl⟩
end
theorem flat_one {α : Type} {enc : α → List DV} (h : ∀ x, (enc x).all DV.one = true) (xs : List α) : (xs.flatMap enc).all DV.one = true := by
  induction xs with
  | nil => rfl
  | cons x r ih => rw [List.flatMap_cons, List.all_append, h, ih]; rfl
/-- A row of one's own is let go, and told in other words. -/
theorem TE.frz {C : Cx} {L : Lo} {Γ : Ga} {R : Act → World → Prop} (t : Nat) (Y : DV) {g n sz e : Nat} {cs : List DV} (ht : L t = some (.ow g n sz)) (hg : Γ g = some (.row e sz cs)) (hl : cs.length = n * sz) (he : DV.sl sz n cs = Y) (k : TE C R (upd L t (.d Y)) (upd Γ g .dead)) : TE C R L Γ := by
  subst he; exact TE.freeze t ht hg hl k
theorem TL.frz {P : Program} {C : Cx} {L : Lo} {Γ : Ga} {ops : Array Oper} {Q : Exit → Act → World → Prop} {rest : List Oper} (t : Nat) (Y : DV) {g n sz e : Nat} {cs : List DV} (ht : L t = some (.ow g n sz)) (hg : Γ g = some (.row e sz cs)) (hl : cs.length = n * sz) (he : DV.sl sz n cs = Y) (k : TL P C ops Q rest (upd L t (.d Y)) (upd Γ g .dead)) : TL P C ops Q rest L Γ := by
  subst he; exact TL.freeze t ht hg hl k
theorem RepsAt.reslot {C : Cx} {ρ : Rho} {L : Lo} {Γ : Ga} {a : Act} {w : World} (h : RepsAt C ρ L Γ a w) {d : Nat} {X : AV} (hx : X.rep ρ (KK C.K0 ρ Γ) C.w0.heap.size w (a.tmps.getD d undef)) (hi : ∀ g, X.id = some g → Γ g ≠ none) :
    RepsAt C ρ (upd L d X) Γ a w := by
  refine ⟨h.df, h.sz, h.k0, h.fr, h.dom, fun t Y g ht hg => ?_, h.lt, h.inj, h.new, h.len, h.obj, fun t Y ht => ?_⟩
  · rcases upd_some ht with ⟨rfl, rfl⟩ | ⟨_, ht⟩
    · exact hi g hg
    · exact h.ment t Y g ht hg
  rcases upd_some ht with ⟨rfl, rfl⟩ | ⟨hne, ht⟩
  · exact hx
  · exact h.slot t Y ht
/-- Nothing, as a row of one's own. -/
theorem reps_own0 {C : Cx} {L : Lo} {Γ : Ga} {a : Act} {w : World} (t g e sz : Nat) (ht : evv L (.tmp t) = some (.slice none 0 0)) (hg : Γ g = none) (h : Reps C L Γ a w) : Reps C (upd L t (.ow g 0 sz)) (upd Γ g (.row e sz [])) a w := by
  obtain ⟨ρ, h⟩ := h
  have hev : a.tmps.getD t undef = .slice none 0 0 := evv_eval h ht
  have r2 : w.ownsRow w.heap.size e sz (.slice none 0 0) 0 [] := World.ownsRow_nil w _ _ _
  have hones : ∀ x ∈ ([] : List Value), x.oneCell' = true := by simp
  have hrl : ∀ K, repL K w [] [] := fun K => by simp [repL]
  obtain ⟨ρ', hr, hρ', hk⟩ := h.gain (g := g) (ob := none) (ob' := (Value.slice none 0 0).ownBlock) (o' := .row e sz []) (w' := w) (Γ1 := Γ) hg (fun _ _ h _ => h) (fun _ h => h) (fun b g' e => by cases e) (fun b e => by cases e) ⟨rfl, rfl, rfl, Nat.le_refl _, fun _ _ _ => rfl⟩
    (fun b eb => ⟨.inr (World.ownsRow.lt r2 b eb).1, (World.ownsRow.lt r2 b eb).2⟩) (by simp) rfl (fun K _ _ => (owns_row r2 (hrl K) hones).1)
  refine ⟨ρ', hr.reslot (fun ob' hob => ?_) (fun g1 hg1 => ?_)⟩
  · rw [hρ'] at hob; cases hob
    rw [hev]
    exact (owns_row r2 (hrl noK) hones).2
  · cases hg1; rw [upd_same]; simp
theorem TE.own0 {C : Cx} {L : Lo} {Γ : Ga} {R : Act → World → Prop} (t g e sz : Nat) (ht : evv L (.tmp t) = some (.slice none 0 0)) (hg : Γ g = none) (k : TE C R (upd L t (.ow g 0 sz)) (upd Γ g (.row e sz []))) : TE C R L Γ := fun a w h => k a w (reps_own0 t g e sz ht hg h)
theorem TC.own0 {P : Program} {C : Cx} {L : Lo} {Γ : Ga} {c : Code} {Q : Exit → Act → World → Prop} (t g e sz : Nat) (ht : evv L (.tmp t) = some (.slice none 0 0)) (hg : Γ g = none) (k : TC P C c Q (upd L t (.ow g 0 sz)) (upd Γ g (.row e sz []))) : TC P C c Q L Γ := fun a w h => k a w (reps_own0 t g e sz ht hg h)
/-- A value in other words. -/
theorem TE.set {C : Cx} {L : Lo} {Γ : Ga} {R : Act → World → Prop} (t : Nat) {X : AV} (Y : AV) (ht : L t = some X) (h : X = Y) (k : TE C R (upd L t Y) Γ) : TE C R L Γ := fun a w ⟨ρ, hr⟩ => k a w ⟨ρ, by
  subst h
  have : upd L t X = L := by funext s; by_cases e : s = t; · subst e; rw [upd_same, ht]
                             · rw [upd_other _ _ _ _ e]
  rw [this]; exact hr⟩
def isAgg' : TypeDesc → Bool
  | .struct _ | .array _ _ => true
  | _ => false
def fld (P : Program) (t i : Nat) : Option (Nat × Option Nat) := match P.underlying t with
  | some (.struct fs) => match fs[i]? with
    | some f => (tyk P f.type).map fun k => (f.offset, k)
    | none => none
  | _ => none
theorem part_run {P : Program} {w : World} {t off : Nat} {us : List Value} {k : Option Nat} (h : tyk P t = some k) :
    (∀ u, k = none → us[off]? = some u → (part t us.toArray off).run P w = .ok u w) ∧ (∀ n, k = some n → (part t us.toArray off).run P w = .ok (.agg ((us.drop off).take n).toArray) w) := by
  unfold tyk at h
  cases hu : P.underlying t with
  | none => simp [hu] at h
  | some d =>
    have hd := run_underlying (w := w) hu
    have agg : ∀ i, P.info? t = some i → isAgg' d = true → (part t us.toArray off).run P w = .ok (.agg ((us.drop off).take i.size).toArray) w := fun i hi ha => by
      have hs : (sizeOf t).run P w = .ok i.size w := by rw [run_sizeOf w hi]; congr 1; unfold Program.cellsOf; rw [hi]; rfl
      cases d <;> simp [isAgg'] at ha <;> (simp [part, isAgg, hd, hs, List.extract])
    have one : isAgg' d = false → ∀ u, us[off]? = some u → (part t us.toArray off).run P w = .ok u w := fun ha u hu' => by
      cases d <;> simp [isAgg'] at ha <;> simp [part, isAgg, hd, hu']
    refine ⟨fun u hk hu' => ?_, fun n hk => ?_⟩
    · subst hk
      refine one ?_ u hu'
      rw [hu] at h
      cases d <;> first | rfl | (simp at h; done)
    · subst hk
      cases hi : P.info? t with
      | none => rw [hu] at h; cases d <;> simp [hi] at h
      | some i =>
        rw [hu] at h
        have : isAgg' d = true ∧ i.size = n := by cases d <;> simp [hi] at h <;> exact ⟨rfl, h⟩
        rw [← this.2]; exact agg i hi this.1
section
variable {P : Program} {C : Cx} {L : Lo} {Γ : Ga} {d : Nat} {ty : TypeId} {pos : String} {af : Array Edge} {gd : Option (Nat × Bool)}
theorem field_run {t i off : Nat} {k : Option Nat} (h : fld P t i = some (off, k)) : ∃ ft, tyk P ft = some k ∧ ∀ (us : List Value) w, (Instr.field t (.agg us.toArray) i).run P w = (part ft us.toArray off).run P w := by
  unfold fld at h
  split at h
  · rename_i fs hu
    split at h
    · rename_i f hf
      cases hk : tyk P f.type with
      | none => simp [hk] at h
      | some k' =>
        simp only [hk, Option.map_some, Option.some.injEq, Prod.mk.injEq] at h
        obtain ⟨rfl, rfl⟩ := h
        refine ⟨f.type, hk, fun us w => ?_⟩
        simp [Instr.field, run_underlying (w := w) hu, hf, asAgg]
    · cases h
  · cases h
theorem OT.field {t i off : Nat} {x : Operand} {A : AV} {cs : List DV} {Y : DV} (hn : Nat.blt d C.n = true) (hx : ev L x = some A) (hA : A.dv = some (.ag cs)) (hf : fld P t i = some (off, none)) (hc : cs[off]? = some Y) :
    OT P C ⟨some d, .field t x i, ty, pos, af, gd⟩ L Γ (upd L d (A.re Y)) Γ :=
  OT.value hn (fun g hg => absurd hg (AV.re_id A Y g)) fun ρ a w h => by
    have h1 := ev_rep h hx
    have h2 := dv_rep h1 hA
    unfold DV.rep at h2
    obtain ⟨us, hu, hl⟩ := h2
    obtain ⟨u, hu2, _⟩ := repL_get hl hc
    obtain ⟨ft, k1, k2⟩ := field_run hf
    refine ⟨u, ?_, AV.re_rep h1 hA fun J hJ => ?_⟩
    · simp only [execOp, hu, Sem.run_bind, k2, (part_run k1).1 u rfl hu2, Result.andThen_ok, Sem.run_pure]
    · unfold DV.rep at hJ
      obtain ⟨us', hu', hl'⟩ := hJ
      rw [hu] at hu'
      simp at hu'; subst hu'
      obtain ⟨u', e1, e2⟩ := repL_get hl' hc
      rw [hu2] at e1; injection e1 with e1; rw [e1]; exact e2
theorem OT.fieldm {t i off n : Nat} {x : Operand} {A : AV} {cs ds : List DV} (hn : Nat.blt d C.n = true) (hx : ev L x = some A) (hA : A.dv = some (.ag cs)) (hf : fld P t i = some (off, some n)) (hc : (cs.drop off).take n = ds) :
    OT P C ⟨some d, .field t x i, ty, pos, af, gd⟩ L Γ (upd L d (A.re (.ag ds))) Γ :=
  OT.value hn (fun g hg => absurd hg (AV.re_id A _ g)) fun ρ a w h => by
    have h1 := ev_rep h hx
    have h2 := dv_rep h1 hA
    unfold DV.rep at h2
    obtain ⟨us, hu, hl⟩ := h2
    obtain ⟨ft, k1, k2⟩ := field_run hf
    refine ⟨.agg ((us.drop off).take n).toArray, ?_, AV.re_rep h1 hA fun J hJ => ?_⟩
    · simp only [execOp, hu, Sem.run_bind, k2, (part_run k1).2 n rfl, Result.andThen_ok, Sem.run_pure]
    · unfold DV.rep at hJ ⊢
      obtain ⟨us', hu', hl'⟩ := hJ
      rw [hu] at hu'
      simp at hu'; subst hu'
      exact ⟨_, rfl, by rw [← hc]; exact repL_take n (repL_drop off hl')⟩
end
theorem PF.nil2 {P : Program} {f : FuncId} {α : Type} {enc : α → List DV} {sz : Nat} {X : DV} {Xs : List DV} {Y : DV} (h : PF P f (X :: slT enc sz [] :: Xs) Y) : PF P f (X :: .v (.slice none 0 0) :: Xs) Y := fun w us hr => h w us (by
  unfold repL at hr ⊢
  obtain ⟨u0, t0, rfl, h0, hr⟩ := hr
  unfold repL at hr
  obtain ⟨u, t, rfl, h1, h2⟩ := hr
  unfold DV.rep at h1; subst h1
  exact ⟨u0, _, rfl, h0, by unfold repL; exact ⟨_, t, rfl, by unfold slT DV.rep; exact .inl ⟨rfl, rfl, rfl⟩, h2⟩⟩)
end Go.Proofs.YtdjcclcejmeheaaGreat.Pl
end
section
namespace Go.Proofs.YtdjcclcejmeheaaGreat.Pl
set_option linter.unusedVariables false
set_option linter.unusedSimpArgs false
open Go.RowKit
/-- The callee's one lent block. -/
def one (ob : Option Nat) : Rho := fun g => bif Nat.beq g 0 then some ob else none
def KM (K : Nat → Prop) (ob : Option Nat) (b : Nat) : Prop := K b ∨ ob = some b
theorem one_some {ob : Option Nat} {g : Nat} {x : Option Nat} (h : one ob g = some x) : g = 0 ∧ x = ob := by
  unfold one at h
  cases hb : Nat.beq g 0 with
  | false => simp [hb] at h
  | true => rw [Nat.beq_eq] at hb; subst hb; simp at h; exact ⟨rfl, h.symm⟩
def G1 (o : AO) : Ga := upd (fun _ => none) 0 o
theorem G1_some {o o' : AO} {g : Nat} (h : G1 o g = some o') : g = 0 ∧ o' = o := by
  rcases upd_some h with h | ⟨_, h⟩
  · exact h
  · cases h
theorem KM_eq {K : Nat → Prop} {ob : Option Nat} {o : AO} (hd : o ≠ .dead) : KK K (one ob) (G1 o) = KM K ob := by
  funext b
  refine propext ⟨?_, ?_⟩
  · rintro (h | ⟨g, _, h⟩)
    · exact .inl h
    · exact .inr (one_some h).2.symm
  · rintro (h | h)
    · exact .inl h
    · exact .inr ⟨0, ⟨o, by simp [G1, upd], hd⟩, by simp [one, h]⟩
/-- A contract of a call that turns one block that it is lent: what it is ahead of the call, what behind it, and what comes back. -/
def PM (P : Program) (f : FuncId) (As : List AV) (o0 o1 : AO) (Y : AV) : Prop := ∀ w K ob us, (∀ b, K b → b < w.heap.size ∧ ob ≠ some b) → (∀ b, ob = some b → b < w.heap.size) → o0.rep (KM K ob) w ob → repsA (one ob) (KM K ob) w.heap.size w As us →
  Calls P f us.toArray w fun r w' => ∃ u, r = .returned u ∧ Kept (fun b => ob = some b) w w' ∧ o1.rep (KM K ob) w' ob ∧ Y.rep (one ob) (KM K ob) w.heap.size w' u
def argA (As : List AV) : Lo := fun t => As[t]?
theorem repsA_get {ρ : Rho} {K : Nat → Prop} {B : Nat} {w : World} : ∀ {As : List AV} {us : List Value} {i : Nat} {A : AV}, repsA ρ K B w As us → As[i]? = some A → ∃ u, us[i]? = some u ∧ A.rep ρ K B w u
  | [], us, i, A, h, hi => by simp at hi
  | B :: r, us, 0, A, h, hi => by
    obtain ⟨u, t, rfl, h1, _⟩ := h
    simp at hi; subst hi; exact ⟨u, rfl, h1⟩
  | B :: r, us, i + 1, A, h, hi => by
    obtain ⟨u, t, rfl, _, h2⟩ := h
    obtain ⟨v, h3, h4⟩ := repsA_get h2 (by simpa using hi)
    exact ⟨v, by simpa using h3, h4⟩
theorem repsA_length {ρ : Rho} {K : Nat → Prop} {B : Nat} {w : World} : ∀ {As : List AV} {us : List Value}, repsA ρ K B w As us → us.length = As.length
  | [], us, h => by unfold repsA at h; subst h; rfl
  | A :: r, us, h => by
    obtain ⟨u, t, rfl, _, h2⟩ := h
    simp [repsA_length h2]
theorem PM.enter {P : Program} {f : FuncId} {fn : Func} {c : Code} {As : List AV} {o0 o1 : AO} {Y : AV} (hf : P.funcs[f]? = some fn) (hb : fn.body = some c) {nt : Nat} (hnt : fn.ntmps = nt) (hn : Nat.ble As.length nt = true) (hk : o0.key = some 0) (hids : (As.all fun A => match A.id with | none => true | some g => Nat.beq g 0) = true)
    (h : ∀ w K ob, TC P ⟨w, K, nt, one ob⟩ c (bodyPost P fn fun r w' => ∃ u, r = .returned u ∧ Kept (fun b => ob = some b) w w' ∧ o1.rep (KM K ob) w' ob ∧ Y.rep (one ob) (KM K ob) w.heap.size w' u) (argA As) (G1 o0)) : PM P f As o0 o1 Y := by
  intro w K ob us hK hlt ho hr
  subst hnt
  have hd : o0 ≠ .dead := by rintro rfl; simp [AO.key] at hk
  have hlen := repsA_length hr
  refine calls_of_wp hf hb (h w K ob _ _ ⟨one ob, ?_⟩)
  have hKK : KK K (one ob) (G1 o0) = KM K ob := KM_eq hd
  refine ⟨rfl, by simp at hn ⊢; omega, fun b hb => ⟨(hK b hb).1, fun ⟨k, e⟩ => (hK b hb).2 (one_some e).2.symm⟩, Kept.refl _ _, fun g hg => ?_, fun t X g ht hg => ?_, fun g b e => hlt b (one_some e).2.symm, fun g g' b e e' _ _ => by rw [(one_some e).1, (one_some e').1],
    fun g b o e _ hkey _ => ?_, fun g o k ob' e hkey hob => ?_, fun g o e _ => ?_, fun t X ht => ?_⟩
  · cases hb : Nat.beq g 0 with
    | false => simp [one, hb]
    | true => rw [Nat.beq_eq] at hb; subst hb; exact absurd ⟨o0, by simp [G1, upd], hd⟩ hg
  · have := List.all_eq_true.1 hids X (List.mem_of_getElem? ht)
    rw [hg] at this
    rw [Nat.beq_eq] at this; subst this
    simp [G1, upd]
  · obtain ⟨_, rfl⟩ := G1_some e
    rw [hk] at hkey; cases hkey
  · obtain ⟨rfl, rfl⟩ := G1_some e
    rw [hk] at hkey; cases hkey
    exact hob
  · obtain ⟨rfl, rfl⟩ := G1_some e
    exact ⟨ob, by simp [one], by rw [hKK]; exact ho⟩
  · obtain ⟨u, h1, h2⟩ := repsA_get hr ht
    have htl : t < us.length := (List.getElem?_eq_some_iff.1 h1).1
    have : (us.toArray ++ Array.replicate (fn.ntmps - us.toArray.size) undef).getD t undef = u := by
      rw [Array.getD_eq_getD_getElem?, Array.getElem?_append_left (by simpa using htl)]
      simp [h1]
    show AV.rep _ _ _ w X _
    rw [hKK]
    have e2 : (({ tmps := us.toArray ++ Array.replicate (fn.ntmps - us.toArray.size) undef, defers := [] } : Act).tmps).getD t undef = u := this
    rw [e2]
    exact h2
/-- An argument: closed data, or the block that is lent. -/
def lentA (g : Nat) : AV → Option AV
  | .d X => some (.d X)
  | .f X => some (.d X)
  | .ptr g' o => bif Nat.beq g' g then some (.ptr 0 o) else none
  | .bs g' o n s => bif Nat.beq g' g then some (.bs 0 o n s) else none
  | .ow g' n s => bif Nat.beq g' g then some (.ow 0 n s) else none
theorem lentA_rep {ρ : Rho} {K : Nat → Prop} {B B' : Nat} {w : World} {g : Nat} {ob : Option Nat} (hg : ρ g = some ob) {A A' : AV} {u : Value} (h : lentA g A = some A') (hr : A.rep ρ K B w u) : A'.rep (one ob) K B' w u := by
  have e1 : ∀ ob', one ob 0 = some ob' → ob' = ob := fun ob' h => (one_some h).2
  cases A with
  | d X => simp only [lentA, Option.some.injEq] at h; subst h; exact hr
  | f X => simp only [lentA, Option.some.injEq] at h; subst h; exact DV.rep_mono (fun b hb hn => ⟨rfl, hb, fun x => hn (.inl x)⟩) _ _ hr
  | ptr g' o =>
    cases hb : Nat.beq g' g with
    | false => simp [lentA, hb] at h
    | true => rw [Nat.beq_eq] at hb; subst hb; simp [lentA] at h; subst h; exact fun ob' h' => by rw [e1 ob' h']; exact hr ob hg
  | bs g' o n s =>
    cases hb : Nat.beq g' g with
    | false => simp [lentA, hb] at h
    | true => rw [Nat.beq_eq] at hb; subst hb; simp [lentA] at h; subst h; exact fun ob' h' => by rw [e1 ob' h']; exact hr ob hg
  | ow g' n s =>
    cases hb : Nat.beq g' g with
    | false => simp [lentA, hb] at h
    | true => rw [Nat.beq_eq] at hb; subst hb; simp [lentA] at h; subst h; exact fun ob' h' => by rw [e1 ob' h']; exact hr ob hg
theorem lentA_mono {ρ : Rho} {K K' : Nat → Prop} {B : Nat} {w : World} {g : Nat} {A Y : AV} {u : Value} (hA : lentA g A = some Y) (h : Keeps K K' w w) (hr : Y.rep ρ K B w u) : Y.rep ρ K' B w u := by
  cases Y with
  | d X => exact DV.rep_mono h X _ hr
  | f X => exact DV.rep_mono (h.widen (J := fun b => b < B)) X _ hr
  | ptr g' o => exact hr
  | bs g' o n s => exact hr
  | ow g' n s => exact hr
section
variable {P : Program} {C : Cx} {L : Lo} {Γ : Ga} {ρ : Rho} {a : Act} {w : World}
theorem lent_back {w0 : World} {K : Nat → Prop} {n : Nat} {ob : Option Nat} {g : Nat} {o : AO} (h : RepsAt ⟨w0, K, n, one ob⟩ ρ L Γ a w) (hg : Γ g = some o) (hk : o.key = some 0) :
    Kept (fun b => ob = some b) w0 w ∧ o.rep (KM K ob) w ob ∧ (∀ b, b < w.heap.size → ¬ KK K ρ Γ b → ¬ KM K ob b) ∧ ρ g = some ob := by
  have hd : o ≠ .dead := by rintro rfl; simp [AO.key] at hk
  obtain ⟨ob', h1, h2⟩ := h.obj g o hg hd
  have e : ob' = ob := by
    have := h.len g o 0 ob' hg hk h1
    simpa [one, eq_comm] using this
  subst e
  have hsub : ∀ b, KM K ob' b → KK K ρ Γ b := fun b hb => hb.elim .inl (fun e => .inr ⟨g, ⟨o, hg, hd⟩, by rw [h1, e]⟩)
  refine ⟨⟨h.fr.os, h.fr.tape, h.fr.output, h.fr.size, fun k hk hm => h.fr.block k hk (fun ⟨j, e⟩ => hm (one_some e).2.symm), h.fr.msz⟩, AO.rep_mono (fun b hb hn => ⟨rfl, hb, fun x => hn (hsub b x)⟩) (fun _ _ => rfl) o h2, fun b _ hn x => hn (hsub b x), h1⟩
theorem TE.retm {fn : Func} {r : ResultVar} {A Y : AV} {o1 : AO} {w0 : World} {K : Nat → Prop} {n : Nat} {ob : Option Nat} (g : Nat) (hf : fn.results = #[r]) (hr : resA P L Γ r = some A) (hA : lentA g A = some Y) (hg : Γ g = some o1) (hk : o1.key = some 0) :
    TE ⟨w0, K, n, one ob⟩ (bodyPost P fn (fun e w' => ∃ u, e = .returned u ∧ Kept (fun b => ob = some b) w0 w' ∧ o1.rep (KM K ob) w' ob ∧ Y.rep (one ob) (KM K ob) w0.heap.size w' u) .ret) L Γ := fun a w ⟨ρ, h⟩ => by
  obtain ⟨us, k1, k2⟩ := resL_run (P := P) h (rs := [r]) (As := [A]) (by simp [resL, hr])
  obtain ⟨u, t, rfl, k3, k4⟩ := k2
  cases k4
  obtain ⟨q1, q2, q3, q4⟩ := lent_back h hg hk
  refine ⟨h.df, _, results_run (rs := [r]) hf _ k1, u, rfl, q1, q2, ?_⟩
  have := lentA_rep (B' := w0.heap.size) q4 hA k3
  exact lentA_mono hA (fun b hb hn => ⟨rfl, hb, q3 b hb hn⟩) this
theorem TE.retm0 {fn : Func} {o1 : AO} {w0 : World} {K : Nat → Prop} {n : Nat} {ob : Option Nat} (g : Nat) (hf : fn.results = #[]) (hg : Γ g = some o1) (hk : o1.key = some 0) :
    TE ⟨w0, K, n, one ob⟩ (bodyPost P fn (fun e w' => ∃ u, e = .returned u ∧ Kept (fun b => ob = some b) w0 w' ∧ o1.rep (KM K ob) w' ob ∧ (AV.d (.tp [])).rep (one ob) (KM K ob) w0.heap.size w' u) .ret) L Γ := fun a w ⟨ρ, h⟩ => by
  obtain ⟨q1, q2, q3, _⟩ := lent_back h hg hk
  exact ⟨h.df, _, results_run (rs := []) hf [] (by simp), _, rfl, q1, q2, by show DV.rep _ _ _ _; unfold DV.rep; exact ⟨[], rfl, by simp [repL]⟩⟩
theorem TE.rettm {fn : Func} {rs : List ResultVar} {A1 A2 : AV} {As : List AV} {Ys : List DV} {o1 : AO} {w0 : World} {K : Nat → Prop} {n : Nat} {ob : Option Nat} (g : Nat) (hf : fn.results = rs.toArray) (hr : resL P L Γ rs = some (A1 :: A2 :: As)) (hA : dvs (A1 :: A2 :: As) = some Ys) (hg : Γ g = some o1) (hk : o1.key = some 0) :
    TE ⟨w0, K, n, one ob⟩ (bodyPost P fn (fun e w' => ∃ u, e = .returned u ∧ Kept (fun b => ob = some b) w0 w' ∧ o1.rep (KM K ob) w' ob ∧ (AV.d (.tp Ys)).rep (one ob) (KM K ob) w0.heap.size w' u) .ret) L Γ := fun a w ⟨ρ, h⟩ => by
  obtain ⟨us, k1, k2⟩ := resL_run (P := P) h hr
  have k2' := k2
  obtain ⟨u, _, rfl, _, v, t, rfl, _, _⟩ := k2'
  obtain ⟨q1, q2, q3, _⟩ := lent_back h hg hk
  refine ⟨h.df, _, results_run hf _ k1, _, rfl, q1, q2, ?_⟩
  show DV.rep _ _ _ _
  unfold DV.rep
  exact ⟨u :: v :: t, rfl, dvs_rep (fun A hA' X x hX hx => DV.rep_mono (fun b hb hn => ⟨rfl, hb, q3 b hb hn⟩) _ _ (dv_rep hx hX)) hA k2⟩
end
def AO.lend : AO → AO
  | .box T cs => .mbox 0 T cs
  | .row T sz cs => .mrow 0 T sz cs
  | .mbox _ T cs => .mbox 0 T cs
  | .mrow _ T sz cs => .mrow 0 T sz cs
  | .nrow u n T sz cs => .nrow u n T sz cs
  | .obj b x => .obj b x
  | .dead => .dead
theorem AO.lend_rep (o : AO) (hd : o ≠ .dead) (K : Nat → Prop) (w : World) (ob : Option Nat) : (o.lend).rep K w ob ↔ o.rep K w ob := by
  cases o <;> first | exact Iff.rfl | exact absurd rfl hd
def evM (L : Lo) (g : Nat) : List Operand → Option (List AV)
  | [] => some []
  | x :: r => match (ev L x).bind (lentA g), evM L g r with
    | some A, some l => some (A :: l)
    | _, _ => none
section
variable {P : Program} {C : Cx} {L : Lo} {Γ : Ga} {ty : TypeId} {pos : String} {af : Array Edge} {gd : Option (Nat × Bool)}
theorem evM_rep {ρ : Rho} {a : Act} {w : World} (h : RepsAt C ρ L Γ a w) {g : Nat} {ob : Option Nat} {B : Nat} (hg : ρ g = some ob) : ∀ {xs : List Operand} {As : List AV}, evM L g xs = some As → repsA (one ob) (KK C.K0 ρ Γ) B w As (xs.map a.eval)
  | [], As, hx => by simp only [evM, Option.some.injEq] at hx; subst hx; rfl
  | x :: r, As, hx => by
    unfold evM at hx
    cases h1 : ev L x with
    | none => simp [h1] at hx
    | some A =>
      cases h2 : lentA g A with
      | none => simp [h1, h2] at hx
      | some A' =>
        cases h3 : evM L g r with
        | none => simp [h1, h2, h3] at hx
        | some l =>
          simp only [h1, Option.bind_some, h2, h3, Option.some.injEq] at hx
          subst hx
          exact ⟨_, _, rfl, lentA_rep hg h2 (ev_rep h h1), evM_rep h hg h3⟩
/-- Behind a call that turned the block which it was lent. -/
theorem RepsAt.lent {ρ : Rho} {a : Act} {w w' : World} (h : RepsAt C ρ L Γ a w) {g : Nat} {o o' : AO} {ob : Option Nat} (hg : Γ g = some o) (hd : o ≠ .dead) (hob : ρ g = some ob) (hk : Kept (fun b => ob = some b) w w') (hd' : o' ≠ .dead) (hkey : o'.key = o.key) (ho : o'.rep (KK C.K0 ρ Γ) w' ob) :
    RepsAt C ρ L (upd Γ g o') a w' := by
  have hl : live Γ g := ⟨o, hg, hd⟩
  have hke : Keeps (KK C.K0 ρ Γ) (KK C.K0 ρ Γ) w w' := fun b hb hn => ⟨hk.block b hb (fun e => hn (.inr ⟨g, hl, by rw [hob, e]⟩)), Nat.lt_of_lt_of_le hb hk.size, hn⟩
  have hs : ∀ g' b', ρ g' = some (some b') → bsz w' b' = bsz w b' := fun g' b' h' => hk.msz b' (h.lt g' b' h')
  refine ⟨h.df, h.sz, h.k0, ⟨hk.os.trans h.fr.os, hk.tape.trans h.fr.tape, hk.output.trans h.fr.output, Nat.le_trans h.fr.size hk.size, fun k hk1 hm => ?_, fun k hk1 => (hk.msz k (Nat.lt_of_lt_of_le hk1 h.fr.size)).trans (h.fr.msz k hk1)⟩,
    fun g' hn => h.dom g' (fun x => hn ((live_upd hd' g').2 (.inr x))), fun t X g' ht hx => ?_, fun g' b' h' => Nat.lt_of_lt_of_le (h.lt g' b' h') hk.size, ?_, ?_, ?_, ?_, ?_⟩
  · refine (hk.block k (Nat.lt_of_lt_of_le hk1 h.fr.size) (fun e => ?_)).trans (h.fr.block k hk1 hm)
    cases hkk : o.key with
    | none => have := h.new g k o hg hd hkk (by rw [hob, e]); omega
    | some j => exact hm ⟨j, by have := h.len g o j ob hg hkk hob; rw [this, e]⟩
  · by_cases e : g' = g
    · subst e; rw [upd_same]; simp
    · rw [upd_other _ _ _ _ e]; exact h.ment t X g' ht hx
  · intro g1 g2 b' h1 h2 l1 l2
    exact h.inj g1 g2 b' h1 h2 (((live_upd hd' g1).1 l1).elim (fun e => e ▸ hl) id) (((live_upd hd' g2).1 l2).elim (fun e => e ▸ hl) id)
  · intro g' b' o2 h1 h2 h3 h'
    rcases upd_some h1 with ⟨rfl, rfl⟩ | ⟨_, h1⟩
    · exact h.new g' b' o hg hd (hkey ▸ h3) h'
    · exact h.new g' b' o2 h1 h2 h3 h'
  · intro g' o2 k ob' h1 h3 h'
    rcases upd_some h1 with ⟨rfl, rfl⟩ | ⟨_, h1⟩
    · exact h.len g' o k ob' hg (hkey ▸ h3) h'
    · exact h.len g' o2 k ob' h1 h3 h'
  · intro g' o2 h1 h2
    rw [KK_upd hd' hl]
    rcases upd_some h1 with ⟨rfl, rfl⟩ | ⟨hne, h1⟩
    · exact ⟨_, hob, ho⟩
    · obtain ⟨ob2, h3, h4⟩ := h.obj g' o2 h1 h2
      refine ⟨ob2, h3, AO.rep_mono hke (fun b' e => ?_) o2 h4⟩
      subst e
      exact hk.block b' (h.lt g' b' h3) (fun e => hne (h.inj g' g b' h3 (by rw [hob, e]) ⟨o2, h1, h2⟩ hl))
  · intro t X ht
    rw [KK_upd hd' hl]
    exact AV.rep_mono hke hs X _ (h.slot t X ht)
theorem callm_core {f : FuncId} {xs : List Operand} {at_ : Array TypeId} {As : List AV} {o o1 o' : AO} {cs : List DV} {Y : AV} {g : Nat} {dst : Option Nat} {a : Act} {w : World} {ρ : Rho} (h : RepsAt C ρ L Γ a w) (hf : cfn P f = true) (hg : Γ g = some o) (hoc : o.cells = some cs) (hx : evM L g xs = some As) (hl : o'.lend = o1) (hd' : o' ≠ .dead) (hkey : o'.key = o.key) (hc : PM P f As o.lend o1 Y) (R : Act → World → Prop)
    (hR : ∀ ob u w', ρ g = some ob → Y.rep (one ob) (KK C.K0 ρ Γ) w.heap.size w' u → RepsAt C ρ L (upd Γ g o') a w' → R (a.put dst u) w') :
    Oper.wp P ⟨dst, .call { callee := .value (.func f), args := xs.toArray, argTypes := at_ }, ty, pos, af, gd⟩ a w R (fun _ _ _ => False) := by
  have hd : o ≠ .dead := by rintro rfl; simp [AO.cells] at hoc
  obtain ⟨ob, h1, h2⟩ := h.obj g o hg hd
  unfold Oper.wp
  rw [call_run hf, Oper.upon_enter]
  let K : Nat → Prop := fun b => KK C.K0 ρ Γ b ∧ ob ≠ some b
  have hKM : KM K ob = KK C.K0 ρ Γ := by
    funext b
    refine propext ⟨?_, fun hb => ?_⟩
    · rintro (hb | hb)
      · exact hb.1
      · exact .inr ⟨g, ⟨o, hg, hd⟩, by rw [h1, hb]⟩
    · by_cases e : ob = some b
      · exact .inr e
      · exact .inl ⟨hb, e⟩
  refine (hc w K ob _ (fun b hb => ⟨kk_lt h b (.inl hb.1), hb.2⟩) (fun b e => h.lt g b (by rw [h1, e])) (by rw [hKM]; exact (AO.lend_rep o hd _ _ _).2 h2) (by rw [hKM]; exact evM_rep h h1 hx)).mono ?_
  rintro r w' ⟨u, rfl, hkept, ho1, hY⟩
  rw [hKM] at ho1 hY
  subst hl
  exact hR ob u w' h1 hY (h.lent hg hd h1 hkept hd' hkey ((AO.lend_rep o' hd' _ _ _).1 ho1))
/-- What comes back: closed data, or the block that was lent. -/
def backA (g : Nat) : AV → AV
  | .d X => .d X
  | .f X => .d X
  | .ptr _ o => .ptr g o
  | .bs _ o n s => .bs g o n s
  | .ow _ n s => .ow g n s
def plainB : AV → Bool
  | .f _ => false
  | .ptr g _ => Nat.beq g 0
  | .bs g _ _ _ => Nat.beq g 0
  | .ow g _ _ => Nat.beq g 0
  | .d _ => true
theorem OT.callm {d : Nat} {f : FuncId} {xs : List Operand} {at_ : Array TypeId} {As : List AV} {o o1 o' : AO} {cs : List DV} {Y : AV} (g : Nat) (hn : Nat.blt d C.n = true) (hf : cfn P f = true) (hg : Γ g = some o) (hoc : o.cells = some cs) (hx : evM L g xs = some As) (hl : o'.lend = o1) (hd' : o' ≠ .dead) (hkey : o'.key = o.key) (hb : plainB Y = true) (hc : PM P f As o.lend o1 Y) :
    OT P C ⟨some d, .call { callee := .value (.func f), args := xs.toArray, argTypes := at_ }, ty, pos, af, gd⟩ L Γ (upd L d (backA g Y)) (upd Γ g o') := by
  rintro a w ⟨ρ, h⟩
  have hd : o ≠ .dead := by rintro rfl; simp [AO.cells] at hoc
  refine callm_core h hf hg hoc hx hl hd' hkey hc _ fun ob u w' hob hY hr => ⟨ρ, hr.put (by simpa using hn) ?_ (fun g1 hg1 => ?_)⟩
  · rw [KK_upd hd' ⟨o, hg, hd⟩]
    have e1 : ∀ ob', ρ g = some ob' → one ob 0 = some ob' := fun ob' h => by rw [hob] at h; simpa [one] using h
    cases Y with
    | d X => exact hY
    | f X => simp [plainB] at hb
    | ptr g' o => simp only [plainB, Nat.beq_eq] at hb; subst hb; exact fun ob' h' => hY ob' (e1 ob' h')
    | bs g' o n s => simp only [plainB, Nat.beq_eq] at hb; subst hb; exact fun ob' h' => hY ob' (e1 ob' h')
    | ow g' n s => simp only [plainB, Nat.beq_eq] at hb; subst hb; exact fun ob' h' => hY ob' (e1 ob' h')
  · have : g1 = g := by cases Y <;> simp [backA, AV.id] at hg1 <;> exact hg1.symm
    subst this; rw [upd_same]; simp
end
end Go.Proofs.YtdjcclcejmeheaaGreat.Pl
end
section
namespace Go.Proofs.YtdjcclcejmeheaaGreat.Pl
set_option linter.unusedVariables false
set_option linter.unusedSimpArgs false
open Go.RowKit
def bdv (b : UInt8) : List DV := [.v (.int .u8 b.toNat)]
section
variable {P : Program} {C : Cx} {L : Lo} {Γ : Ga} {d : Nat} {ty : TypeId} {pos : String} {af : Array Edge} {gd : Option (Nat × Bool)}
theorem OT.lenb {t : TypeId} {x : Operand} {g off n sz : Nat} {o : AO} {cs : List DV} (hn : Nat.blt d C.n = true) (hx : ev L x = some (.bs g off n sz)) (hg : Γ g = some o) (ho : o.cells = some cs) (ht : isSl P t = some true) :
    OT P C ⟨some d, .call { callee := .builtin .len, args := #[x], argTypes := #[t] }, ty, pos, af, gd⟩ L Γ (upd L d (.f (.v (.int .i64 n)))) Γ :=
  OT.value hn (fun g hg => by simp [AV.id] at hg) fun ρ a w h => by
    obtain ⟨ob, h3⟩ := own_block h hg ho
    obtain ⟨b, c, rfl, h2, _⟩ := ev_rep h hx ob h3
    exact ⟨_, by simp [execOp, resolve, invoke, builtin, h2, len_sl ht], rfl⟩
/-- A function with what it holds. -/
theorem OT.mkfn {f : FuncId} {xs : List Operand} {caps : List DV} (hn : Nat.blt d C.n = true) (hx : evD L xs = some caps) :
    OT P C ⟨some d, .makeFunc (.func f) #[] xs.toArray, ty, pos, af, gd⟩ L Γ (upd L d (.d (.fn (.func f) [] caps))) Γ :=
  OT.value hn (fun g hg => by simp [AV.id] at hg) fun ρ a w h => ⟨.func (.func f) #[] (xs.map a.eval).toArray, by simp [execOp, Instr.makeFunc], by
    show DV.rep _ _ _ _
    unfold DV.rep
    exact ⟨[], xs.map a.eval, rfl, by simp [repL], evD_rep h hx⟩⟩
end
theorem reps_freezeB {C : Cx} {L : Lo} {Γ : Ga} {a : Act} {w : World} (t : Nat) {g off : Nat} {o : AO} {cs : List DV} (ht : L t = some (.ptr g off)) (hg : Γ g = some o) (ho : o.cells = some cs) (hkey : o.key = none) (h : Reps C L Γ a w) : Reps C (upd L t (.d (.el (cs.drop off)))) (upd Γ g .dead) a w := by
  obtain ⟨ρ, h⟩ := h
  have hd : o ≠ .dead := by rintro rfl; simp [AO.cells] at ho
  obtain ⟨ob, h1, h2⟩ := h.obj g _ hg hd
  classical
  let ρ' : Rho := fun x => if x = g then none else ρ x
  have r1 : ∀ x y, ρ' x = some y → x ≠ g ∧ ρ x = some y := fun x y hx => by
    by_cases e : x = g
    · simp [ρ', e] at hx
    · simp [ρ', e] at hx; exact ⟨e, hx⟩
  have hlv : ∀ x, live (upd Γ g .dead) x → x ≠ g ∧ live Γ x := fun x ⟨o, p, q⟩ => by
    rcases upd_some p with ⟨_, e⟩ | ⟨hne, p⟩
    · exact absurd e q
    · exact ⟨hne, o, p, q⟩
  have hk : Keeps (KK C.K0 ρ Γ) (KK C.K0 ρ' (upd Γ g .dead)) w w := fun b hb hn => ⟨rfl, hb, fun x => hn (x.elim .inl fun ⟨x, p, q⟩ => .inr ⟨x, (hlv x p).2, (r1 x _ q).2⟩)⟩
  refine ⟨ρ', h.df, h.sz, h.k0, h.fr, fun x hx => ?_, fun s X x hs hX => ?_, fun x b hb => h.lt x b (r1 x _ hb).2, fun x y b p q l1 l2 => h.inj x y b (r1 x _ p).2 (r1 y _ q).2 (hlv x l1).2 (hlv y l2).2, fun x b o k1 k2 k3 p => (upd_some k1).elim (fun e => absurd e.2 k2) (fun e => h.new x b o e.2 k2 k3 (r1 x _ p).2), fun x o k oo k1 k3 p => (upd_some k1).elim (fun e => by rw [e.2] at k3; cases k3) (fun e => h.len x o k oo e.2 k3 (r1 x _ p).2), fun x o p q => ?_, fun s X hs => ?_⟩
  · by_cases e : x = g
    · simp [ρ', e]
    · have : ¬ live Γ x := fun ⟨o, p, q⟩ => hx ⟨o, by rw [upd_other _ _ _ _ e]; exact p, q⟩
      simp [ρ', e, h.dom x this]
  · by_cases e : x = g
    · subst e; rw [upd_same]; simp
    · rw [upd_other _ _ _ _ e]
      rcases upd_some hs with ⟨_, rfl⟩ | ⟨_, hs⟩
      · simp [AV.id] at hX
      · exact h.ment s X x hs hX
  · rcases upd_some p with ⟨_, e⟩ | ⟨hne, p⟩
    · exact absurd e q
    · obtain ⟨oo, k1, k2⟩ := h.obj x o p q
      exact ⟨oo, by simp [ρ', hne, k1], AO.rep_mono hk (fun _ _ => rfl) o k2⟩
  · rcases upd_some hs with ⟨rfl, rfl⟩ | ⟨_, hs⟩
    · show DV.rep _ _ _ _
      unfold DV.rep
      obtain ⟨b, e, hv⟩ := h.slot s _ ht ob h1
      subst e
      have hc := repAt_drop off (own_cells h hg ho h1)
      rw [Nat.zero_add] at hc
      refine ⟨b, off, hv, .inr ⟨h.lt g b h1, ?_⟩, ?_⟩
      · rintro (x | ⟨x, p, q⟩)
        · have := (h.k0 b x).1; have := h.new g b _ hg hd hkey h1; omega
        · exact (hlv x p).1 (h.inj x g b (r1 x _ q).2 h1 (hlv x p).2 ⟨_, hg, hd⟩)
      · obtain ⟨us, q1, q2, q3⟩ := repAt_vals hc
        exact repAt_of_cells (repL_mono hk _ _ q1) q2 q3
    · have hX := h.slot s X hs
      cases X with
      | d X => exact DV.rep_mono hk X _ hX
      | f X => exact DV.rep_mono (hk.widen (J := fun b => b < C.w0.heap.size)) X _ hX
      | ptr x o => exact fun ob hob => hX ob (r1 x _ hob).2
      | bs x o n s => exact fun ob hob => hX ob (r1 x _ hob).2
      | ow x n s => exact fun ob hob => hX ob (r1 x _ hob).2
theorem TL.frzb {P : Program} {C : Cx} {L : Lo} {Γ : Ga} {ops : Array Oper} {Q : Exit → Act → World → Prop} {rest : List Oper} (t : Nat) {g off : Nat} {o : AO} {cs : List DV} (ht : L t = some (.ptr g off)) (hg : Γ g = some o) (ho : o.cells = some cs) (hkey : o.key = none) (k : TL P C ops Q rest (upd L t (.d (.el (cs.drop off)))) (upd Γ g .dead)) : TL P C ops Q rest L Γ :=
  fun a w h => k a w (reps_freezeB t ht hg ho hkey h)
theorem TE.frzb {C : Cx} {L : Lo} {Γ : Ga} {R : Act → World → Prop} (t : Nat) {g off : Nat} {o : AO} {cs : List DV} (ht : L t = some (.ptr g off)) (hg : Γ g = some o) (ho : o.cells = some cs) (hkey : o.key = none) (k : TE C R (upd L t (.d (.el (cs.drop off)))) (upd Γ g .dead)) : TE C R L Γ :=
  fun a w h => k a w (reps_freezeB t ht hg ho hkey h)
/-- Of a row the first cells are remembered. -/
theorem reps_cut {C : Cx} {L : Lo} {Γ : Ga} {a : Act} {w : World} (g k : Nat) {o : AO} {cs : List DV} (hg : Γ g = some o) (ho : o.cells = some cs) (hr : (match o with | .row .. => true | .mrow .. => true | _ => false) = true) (h : Reps C L Γ a w) : Reps C L (upd Γ g (o.re (cs.take k))) a w := by
  obtain ⟨ρ, h⟩ := h
  have hd : o ≠ .dead := by rintro rfl; simp [AO.cells] at ho
  obtain ⟨ob, h1, h2⟩ := h.obj g _ hg hd
  have hkp : Kept (fun b => ob = some b) w w := Kept.refl _ _
  refine ⟨ρ, h.lent hg hd h1 hkp (AO.re_dead _ _ hd) (AO.re_key _ _) ?_⟩
  have key : ∀ T sz cs', (AO.row T sz cs').rep (KK C.K0 ρ Γ) w ob → (AO.row T sz (cs'.take k)).rep (KK C.K0 ρ Γ) w ob := fun T sz cs' h => by
    rcases h with ⟨rfl, rfl⟩ | ⟨b, us, cap, rfl, q1, q2, q3, q4, q5, q6⟩
    · exact .inl ⟨rfl, by simp⟩
    · refine .inr ⟨b, us, cap, rfl, q1, q2, q3, by simp; omega, ?_, ?_⟩
      · have := repL_take k q5
        rwa [List.take_take, ← List.length_take] at this
      · intro x hx
        have e : us.take (cs'.take k).length = (us.take cs'.length).take (cs'.take k).length := by rw [List.take_take, Nat.min_eq_left (by simp; omega)]
        rw [e] at hx
        exact q6 x (List.mem_of_mem_take hx)
  cases o with
  | dead => exact absurd rfl hd
  | box T cs' => simp at hr
  | mbox k' T cs' => simp at hr
  | row T sz cs' => simp only [AO.cells, Option.some.injEq] at ho; subst ho; exact key T sz cs' h2
  | mrow k' T sz cs' => simp only [AO.cells, Option.some.injEq] at ho; subst ho; exact key T sz cs' h2
  | nrow u n T sz cs' => simp at hr
  | obj _ _ => simp at hr
theorem TE.cut {C : Cx} {L : Lo} {Γ : Ga} {R : Act → World → Prop} (g k : Nat) {o : AO} {cs : List DV} (hg : Γ g = some o) (ho : o.cells = some cs) (hr : (match o with | .row .. => true | .mrow .. => true | _ => false) = true) (k' : TE C R L (upd Γ g (o.re (cs.take k)))) : TE C R L Γ := fun a w h => k' a w (reps_cut g k hg ho hr h)
/-- A block's cells in other words. -/
theorem TE.obj {C : Cx} {L : Lo} {Γ : Ga} {R : Act → World → Prop} (g : Nat) {o : AO} (o' : AO) (hg : Γ g = some o) (he : o = o') (k : TE C R L (upd Γ g o')) : TE C R L Γ := by
  subst he
  have : upd Γ g o = Γ := by
    funext s; by_cases e : s = g
    · subst e; rw [upd_same, hg]
    · rw [upd_other _ _ _ _ e]
  rw [this] at k; exact k
/-- A plain value, told anew. -/
theorem TE.setv {C : Cx} {L : Lo} {Γ : Ga} {R : Act → World → Prop} (t : Nat) {u : Value} (u' : Value) (ht : evv L (.tmp t) = some u) (h : u = u') (k : TE C R (upd L t (.d (.v u'))) Γ) : TE C R L Γ := fun a w ⟨ρ, hr⟩ => k a w ⟨ρ, by
  subst h
  refine hr.reslot (X := .d (.v u)) ?_ (fun g hg => by simp [AV.id] at hg)
  have := evv_eval hr ht
  show DV.rep _ _ _ _
  unfold DV.rep
  exact this⟩
theorem TC.setv {P : Program} {C : Cx} {L : Lo} {Γ : Ga} {Q : Exit → Act → World → Prop} {c : Code} (t : Nat) {u : Value} (u' : Value) (ht : evv L (.tmp t) = some u) (h : u = u') (k : TC P C c Q (upd L t (.d (.v u'))) Γ) : TC P C c Q L Γ := fun a w ⟨ρ, hr⟩ => k a w ⟨ρ, by
  subst h
  refine hr.reslot (X := .d (.v u)) ?_ (fun g hg => by simp [AV.id] at hg)
  have := evv_eval hr ht
  show DV.rep _ _ _ _
  unfold DV.rep
  exact this⟩
section
variable {P : Program} {C : Cx} {L : Lo} {Γ : Ga} {d : Nat} {ty : TypeId} {pos : String} {af : Array Edge} {gd : Option (Nat × Bool)}
/-- All of an array that is read alone. -/
theorem OT.slicee {t n sz : Nat} {x : Operand} {A : AV} {cs : List DV} (hn : Nat.blt d C.n = true) (hx : ev L x = some A) (hA : A.dv = some (.el cs)) (ht : arr P t = some (n, sz)) (hfit : n * sz ≤ cs.length) (hm : n ≤ 1048576) :
    OT P C ⟨some d, .slice t x none none none, ty, pos, af, gd⟩ L Γ (upd L d (A.re (.sl sz n (cs.take (n * sz))))) Γ :=
  OT.value hn (fun g hg => absurd hg (AV.re_id A _ g)) fun ρ a w h => by
    have h1 := ev_rep h hx
    have h2 := dv_rep h1 hA
    obtain ⟨e, j, hu, hi', hj⟩ := arr_parts ht
    unfold DV.rep at h2
    obtain ⟨b, o, hv, hb, hr⟩ := h2
    refine ⟨.slice (some ⟨b, o, none⟩) n n, ?_, AV.re_rep h1 hA fun J hJ => ?_⟩
    · by_cases hz : n = 0
      · subst hz
        simp [execOp, hv, Instr.sliceAt, Instr.sureAddr, Instr.slice, Instr.sliceBounds, run_underlying hu, sizeOf, typeInfo, hi', hj]
      · simp [execOp, hv, Instr.sliceAt, Instr.sureAddr, Instr.slice, Instr.sliceBounds, run_underlying hu, sizeOf, typeInfo, hi', hj, hz, addr_add]
    · unfold DV.rep at hJ ⊢
      obtain ⟨b', o', hv', hb', hr'⟩ := hJ
      rw [hv] at hv'; simp at hv'; obtain ⟨rfl, rfl⟩ := hv'
      refine .inr ⟨b, o, n, rfl, Nat.le_refl _, by unfold maxLen; omega, by simp; omega, ?_, repAt_take _ hr'⟩
      rcases hb' with rfl | hb'
      · exact .inl (by simp)
      · exact .inr hb'
end
end Go.Proofs.YtdjcclcejmeheaaGreat.Pl
end
section
namespace Go.Proofs.YtdjcclcejmeheaaGreat.Pl
set_option linter.unusedVariables false
set_option linter.unusedSimpArgs false
open Go.RowKit
inductive LK where
  | b
  | i (k : IntKind)
  | s
def LK.lit : LK → Value → Option Lit
  | .b, .bool x => some (.bool x)
  | .i k, .int q n => if q = k ∧ (Lit.int k n).wf = true then some (.int k n) else none
  | .s, .string x => if x.size ≤ maxLen then some (.string x.data.toList) else none
  | _, _ => none
def lits : List LK → List Value → Option (List Lit)
  | [], [] => some []
  | k :: ks, u :: us => match k.lit u, lits ks us with
    | some l, some r => some (l :: r)
    | _, _ => none
  | _, _ => none
theorem lit_inj {k : LK} {u v : Value} {l : Lit} (h : k.lit u = some l) (h' : k.lit v = some l) : u = v := by
  cases k <;> cases u <;> simp only [LK.lit] at h <;> try cases h
  · cases v <;> simp only [LK.lit] at h' <;> try cases h'
    rfl
  · split at h
    · cases h
      cases v <;> simp only [LK.lit] at h' <;> try cases h'
      split at h'
      · rename_i h2
        simp only [Option.some.injEq, Lit.int.injEq, true_and] at h'
        subst h'
        simp_all
      · cases h'
    · cases h
  · split at h
    · cases h
      cases v <;> simp only [LK.lit] at h' <;> try cases h'
      split at h'
      · rename_i h1 s2 h2
        have := Option.some.inj h'
        rename_i s1
        have e : s1.data.toList = s2.data.toList := by simpa using this.symm
        have : s1 = s2 := by cases s1; cases s2; simp only [Array.toList_inj] at e; subst e; rfl
        rw [this]
      · cases h'
    · cases h
theorem lits_inj : ∀ {ks : List LK} {us vs : List Value} {l : List Lit}, lits ks us = some l → lits ks vs = some l → us = vs
  | [], us, vs, l, h, h' => by cases us <;> cases vs <;> simp [lits] at h h' ⊢
  | k :: ks, [], vs, l, h, h' => by simp [lits] at h
  | k :: ks, u :: us, [], l, h, h' => by simp [lits] at h'
  | k :: ks, u :: us, v :: vs, l, h, h' => by
    simp only [lits] at h h'
    split at h
    · rename_i a r h1 h2
      cases h
      split at h'
      · rename_i a' r' h3 h4
        simp only [Option.some.injEq, List.cons.injEq] at h'
        obtain ⟨rfl, rfl⟩ := h'
        rw [lit_inj h1 h3, lits_inj h2 h4]
      · cases h'
    · cases h
theorem lits_length : ∀ {ks : List LK} {us : List Value} {l : List Lit}, lits ks us = some l → us.length = ks.length
  | [], us, l, h => by cases us <;> simp [lits] at h ⊢
  | k :: ks, [], l, h => by simp [lits] at h
  | k :: ks, u :: us, l, h => by
    simp only [lits] at h
    split at h
    · rename_i h1 h2; simp [lits_length h2]
    · cases h
theorem lits_app : ∀ {ks ls : List LK} {us : List Value} {l : List Lit}, lits (ks ++ ls) us = some l → ∃ a b, lits ks (us.take ks.length) = some a ∧ lits ls (us.drop ks.length) = some b ∧ l = a ++ b
  | [], ls, us, l, h => ⟨[], l, by simp [lits], by simpa using h, rfl⟩
  | k :: ks, ls, [], l, h => by simp [lits] at h
  | k :: ks, ls, u :: us, l, h => by
    simp only [List.cons_append, lits] at h
    split at h
    · rename_i x r h1 h2
      cases h
      obtain ⟨a, b, h3, h4, rfl⟩ := lits_app h2
      exact ⟨x :: a, b, by simp [lits, h1, h3], by simpa using h4, rfl⟩
    · cases h
/-- The leaves of a type. -/
def lrep (l : List LK) : Nat → List LK
  | 0 => []
  | n + 1 => l ++ lrep l n
def layF (P : Program) (g : TypeId → Option (List LK)) : Nat → List Field → Option (List LK)
  | _, [] => some []
  | off, f :: fs => match g f.type, layF P g (off + P.cellsOf f.type) fs with
    | some a, some b => if f.offset = off ∧ f.name ≠ "_" ∧ a.length = P.cellsOf f.type then some (a ++ b) else none
    | _, _ => none
def lay (P : Program) : Nat → TypeId → Option (List LK)
  | 0, _ => none
  | d + 1, t => match P.underlying t with
    | some .bool => some [.b]
    | some (.int k) => some [.i k]
    | some .string => some [.s]
    | some (.array n e) => match lay P d e with
      | some l => if l.length = P.cellsOf e ∧ n * l.length = P.cellsOf t then some (lrep l n) else none
      | none => none
    | some (.struct fs) => match layF P (lay P d) 0 fs.toList with
      | some l => if l.length = P.cellsOf t then some l else none
      | none => none
    | _ => none
theorem lrep_length (l : List LK) : ∀ n, (lrep l n).length = n * l.length
  | 0 => by simp [lrep]
  | n + 1 => by simp [lrep, lrep_length l n, Nat.succ_mul, Nat.add_comm]
theorem mapM_rep {P : Program} {d e m : Nat} {l : List LK} (hl : l.length = m) (ih : ∀ us r, lits l us = some r → P.keyLits d e us = some r) : ∀ (n k : Nat) (us : List Value) (r : List Lit), lits (lrep l n) (us.drop (k * m)) = some r →
    ∃ rs, (List.range' k n).mapM (fun i => P.keyLits d e ((us.drop (i * m)).take m)) = some rs ∧ rs.flatten = r
  | 0, k, us, r, h => by
    simp only [lrep] at h
    cases hd : us.drop (k * m) with
    | nil => rw [hd] at h; simp [lits] at h; subst h; exact ⟨[], by simp, rfl⟩
    | cons a b => rw [hd] at h; simp [lits] at h
  | n + 1, k, us, r, h => by
    simp only [lrep] at h
    obtain ⟨a, b, h1, h2, rfl⟩ := lits_app h
    rw [List.drop_drop, hl, show k * m + m = (k + 1) * m by rw [Nat.succ_mul]] at h2
    rw [hl] at h1
    obtain ⟨rs, h3, h4⟩ := mapM_rep hl ih n (k + 1) us b h2
    refine ⟨a :: rs, ?_, by simp [h4]⟩
    rw [List.range'_succ, List.mapM_cons, ih _ _ h1]
    simp [h3]
theorem mapM_fld {P : Program} {d : Nat} (ih : ∀ t l us r, lay P d t = some l → lits l us = some r → P.keyLits d t us = some r) : ∀ (fs : List Field) (off : Nat) (l : List LK) (us : List Value) (r : List Lit), layF P (lay P d) off fs = some l → lits l (us.drop off) = some r →
    (∃ rs, fs.mapM (fun f => P.keyLits d f.type ((us.drop f.offset).take (P.cellsOf f.type))) = some rs ∧ rs.flatten = r) ∧ fs.all (·.name != "_") = true
  | [], off, l, us, r, h, h' => by
    simp [layF] at h; subst h
    cases hd : us.drop off with
    | nil => rw [hd] at h'; simp [lits] at h'; subst h'; exact ⟨⟨[], by simp, rfl⟩, rfl⟩
    | cons a b => rw [hd] at h'; simp [lits] at h'
  | f :: fs, off, l, us, r, h, h' => by
    simp only [layF] at h
    split at h
    · rename_i a b h1 h2
      split at h
      · rename_i h3
        cases h
        obtain ⟨h4, h5, h6⟩ := h3
        obtain ⟨x, y, k1, k2, rfl⟩ := lits_app h'
        rw [List.drop_drop, h6] at k2
        rw [h6] at k1
        obtain ⟨⟨rs, k3, k4⟩, k5⟩ := mapM_fld ih fs (off + P.cellsOf f.type) b us y h2 k2
        refine ⟨⟨x :: rs, ?_, by simp [k4]⟩, by simp only [List.all_cons, k5, Bool.and_true]; simpa using h5⟩
        rw [List.mapM_cons, h4, ih _ _ _ _ h1 k1]
        simp [k3]
      · cases h
    · cases h
theorem lits_one {k : LK} {us : List Value} {r : List Lit} (h : lits [k] us = some r) : ∃ u l, us = [u] ∧ k.lit u = some l ∧ r = [l] := by
  cases us with
  | nil => simp [lits] at h
  | cons u us =>
    cases us with
    | nil =>
      simp only [lits] at h
      split at h
      · rename_i a b h1 h2; cases h2; cases h; exact ⟨u, a, rfl, h1, rfl⟩
      · cases h
    | cons v vs => simp [lits] at h
theorem lay_keys {P : Program} : ∀ (d : Nat) (t : TypeId) (l : List LK) (us : List Value) (r : List Lit), lay P d t = some l → lits l us = some r → P.keyLits d t us = some r
  | 0, t, l, us, r, h, _ => by simp [lay] at h
  | d + 1, t, l, us, r, h, h' => by
    unfold lay at h
    unfold Program.keyLits
    split at h
    · rename_i hu; cases h
      obtain ⟨u, a, rfl, h1, rfl⟩ := lits_one h'
      rw [hu]; cases u <;> simp [LK.lit] at h1 ⊢; exact h1
    · rename_i k hu; cases h
      obtain ⟨u, a, rfl, h1, rfl⟩ := lits_one h'
      rw [hu]; cases u <;> simp [LK.lit] at h1 ⊢
      exact ⟨⟨h1.1.1, h1.1.2⟩, h1.2⟩
    · rename_i hu; cases h
      obtain ⟨u, a, rfl, h1, rfl⟩ := lits_one h'
      rw [hu]; cases u <;> simp [LK.lit] at h1 ⊢
      exact h1
    · rename_i n e hu
      split at h
      · rename_i l0 hl0
        split at h
        · rename_i hs; cases h
          have hlen : us.length = P.cellsOf t := by rw [lits_length h', lrep_length, hs.2]
          obtain ⟨rs, k1, k2⟩ := mapM_rep (P := P) (d := d) (e := e) hs.1 (fun us r h => lay_keys d e l0 us r hl0 h) n 0 us r (by simpa using h')
          rw [hu]
          rw [← List.range_eq_range'] at k1
          cases us with
          | nil => simp only [hlen, if_true, k1, Option.map_some, k2]
          | cons u us => simp only [hlen, if_true, k1, Option.map_some, k2]
        · cases h
      · cases h
    · rename_i fs hu
      split at h
      · rename_i l0 hl0
        split at h
        · rename_i hs; cases h
          have hlen : us.length = P.cellsOf t := by rw [lits_length h', hs]
          obtain ⟨⟨rs, k1, k2⟩, k3⟩ := mapM_fld (P := P) (d := d) (fun t l us r h h' => lay_keys d t l us r h h') fs.toList 0 l us r hl0 (by simpa using h')
          rw [hu]
          have k3' : fs.all (·.name != "_") = true := by rw [← k3]; simp
          cases us with
          | nil => simp only [hlen, k3', and_self, if_true, k1, Option.map_some, k2]
          | cons u us => simp only [hlen, k3', and_self, if_true, k1, Option.map_some, k2]
        · cases h
      · cases h
    · cases h
/-- A type whose values are compared leaf by leaf. -/
def isAg (P : Program) (t : TypeId) : Bool := match P.underlying t with
  | some (.array _ _) => true
  | some (.struct _) => true
  | _ => false
def eqT (P : Program) (t : TypeId) : Option (List LK) := bif P.keyTypeAt 4 t && (!P.eqGuardType P.depth t && isAg P t) then lay P 4 t else none
theorem eqT_parts {P : Program} {t : TypeId} {ks : List LK} (h : eqT P t = some ks) : P.keyTypeAt 4 t = true ∧ P.eqGuardType P.depth t = false ∧ isAg P t = true ∧ lay P 4 t = some ks := by
  unfold eqT at h
  cases h1 : P.keyTypeAt 4 t <;> cases h2 : P.eqGuardType P.depth t <;> cases h3 : isAg P t <;> simp_all
theorem equal_ag {P : Program} {t : TypeId} {ks : List LK} {us vs : List Value} {l m : List Lit} (ht : eqT P t = some ks) (hu : lits ks us = some l) (hv : lits ks vs = some m) (w : World) : ∃ r : Bool, (Op.equalIn 10000 t (.agg us.toArray) (.agg vs.toArray)).run P w = .ok r w ∧ (r = true ↔ us = vs) := by
  obtain ⟨h1, _, h2, ht⟩ := eqT_parts ht
  have hlen : ∀ (us : List Value) (l : List Lit), lits ks us = some l → (Value.agg us.toArray).formed P t = true := fun us l hu => by
    have e := lits_length hu
    have k := lay_keys _ _ _ _ _ ht hu
    unfold Program.keyLits at k
    unfold Value.formed
    unfold isAg at h2
    cases hk : P.underlying t with
    | none => rw [hk] at h2; simp at h2
    | some kd =>
      rw [hk] at h2 k
      cases kd <;> simp at h2
      · simp only at k
        split at k
        · rename_i q; simp [q]
        · cases k
      · simp only at k
        split at k
        · rename_i q; simp [q.1]
        · cases k
  obtain ⟨r, k1, k2⟩ := run_equalIn_deep 9996 4 t h1 w 4 4 (.agg us.toArray) (.agg vs.toArray) l m (hlen _ _ hu) (hlen _ _ hv) (by simpa [Value.cells] using lay_keys _ _ _ _ _ ht hu) (by simpa [Value.cells] using lay_keys _ _ _ _ _ ht hv)
  refine ⟨r, k1, k2.trans ⟨fun e => ?_, fun e => ?_⟩⟩
  · subst e; exact lits_inj hu hv
  · subst e; rw [hu] at hv; exact Option.some.inj hv
theorem eqT_guard {P : Program} {t : TypeId} {ks : List LK} (ht : eqT P t = some ks) : P.eqGuardType P.depth t = false := (eqT_parts ht).2.1
section
variable {P : Program} {C : Cx} {L : Lo} {Γ : Ga} {d : Nat} {ty : TypeId} {pos : String} {af : Array Edge} {gd : Option (Nat × Bool)}
theorem ag_val {x : Operand} {cs : List DV} {us : List Value} {a : Act} {w : World} {ρ : Rho} (h : RepsAt C ρ L Γ a w) (hx : evd L x = some (.ag cs)) (hc : vals cs = some us) : a.eval x = .agg us.toArray := by
  have := evd_rep h hx
  unfold DV.rep at this
  obtain ⟨vs, h1, h2⟩ := this
  rw [h1, (vals_rep hc).1 h2]
theorem OT.eqag {xt yt : TypeId} {x y : Operand} {cs ds : List DV} {us vs : List Value} {ks : List LK} {l m : List Lit} (r : Bool) (hn : Nat.blt d C.n = true) (hx : evd L x = some (.ag cs)) (hy : evd L y = some (.ag ds)) (hc : vals cs = some us) (hd : vals ds = some vs) (ht : eqT P xt = some ks) (hu : lits ks us = some l) (hv : lits ks vs = some m) (hr : r = true ↔ us = vs) :
    OT P C ⟨some d, .binOp .eql xt x y yt, ty, pos, af, gd⟩ L Γ (upd L d (.f (.v (.bool r)))) Γ :=
  OT.value hn (fun g hg => by simp [AV.id] at hg) fun ρ a w h => by
    obtain ⟨r', h1, h2⟩ := equal_ag ht hu hv w
    have e : r' = r := by cases r <;> cases r' <;> simp_all
    subst e
    exact ⟨.bool r', by simp [execOp, ag_val h hx hc, ag_val h hy hd, run_eqGuard_agg w _ _ _ _ _ _ (eqT_guard ht), run_eql_struct, h1], rfl⟩
theorem OT.neag {xt yt : TypeId} {x y : Operand} {cs ds : List DV} {us vs : List Value} {ks : List LK} {l m : List Lit} (r : Bool) (hn : Nat.blt d C.n = true) (hx : evd L x = some (.ag cs)) (hy : evd L y = some (.ag ds)) (hc : vals cs = some us) (hd : vals ds = some vs) (ht : eqT P xt = some ks) (hu : lits ks us = some l) (hv : lits ks vs = some m) (hr : r = true ↔ ¬ us = vs) :
    OT P C ⟨some d, .binOp .neq xt x y yt, ty, pos, af, gd⟩ L Γ (upd L d (.f (.v (.bool r)))) Γ :=
  OT.value hn (fun g hg => by simp [AV.id] at hg) fun ρ a w h => by
    obtain ⟨r', h1, h2⟩ := equal_ag ht hu hv w
    have e : (!r') = r := by cases r <;> cases r' <;> simp_all
    subst e
    exact ⟨.bool (!r'), by simp [execOp, ag_val h hx hc, ag_val h hy hd, run_eqGuard_agg w _ _ _ _ _ _ (eqT_guard ht), run_neq_struct, h1], rfl⟩
theorem OT.len0 {t : TypeId} {x : Operand} (hn : Nat.blt d C.n = true) (hx : evv L x = some (.slice none 0 0)) (ht : isSl P t = some true) :
    OT P C ⟨some d, .call { callee := .builtin .len, args := #[x], argTypes := #[t] }, ty, pos, af, gd⟩ L Γ (upd L d (.f (.v (.int .i64 0)))) Γ :=
  OT.value hn (fun g hg => by simp [AV.id] at hg) fun ρ a w h => ⟨_, by simp [execOp, resolve, invoke, builtin, evv_eval h hx, len_sl ht], rfl⟩
/-- The tail of a row is cleared: what stood there is forgotten. -/
theorem OT.clear {t e n sz g off : Nat} {x : Operand} {o : AO} {cs : List DV} {zs : List Value} (hx : ev L x = some (.bs g off n sz)) (hg : Γ g = some o) (ho : o.cells = some cs) (hrow : (match o with | .row .. => true | .mrow .. => true | _ => false) = true) (ht : elt P t = some (e, sz)) (hz : zc P e = some zs) (hzl : zs.length = sz) (h0 : 0 < n) (h1 : zs.all Value.oneCell' = true) (hle : off ≤ cs.length) :
    OT P C ⟨none, .call { callee := .builtin .clear, args := #[x], argTypes := #[t] }, ty, pos, af, gd⟩ L Γ L (upd Γ g (o.re (cs.take off))) := by
  rintro a w ⟨ρ, h⟩
  have hd : o ≠ .dead := by rintro rfl; simp [AO.cells] at ho
  obtain ⟨ob, hb, hr⟩ := h.obj g _ hg hd
  obtain ⟨b, c, e', hv, k2, k3, k4⟩ := ev_rep h hx _ hb
  cases e'
  obtain ⟨hu, j, hi, hj⟩ := elt_parts ht
  obtain ⟨us, T, q1, q0, q2, q3, back⟩ := AO.vals ho hr
  obtain ⟨z, hz1, hz2⟩ := zc_run hz w
  have hsz : z.cells.size = sz := by rw [← hzl, ← hz2]; simp
  have hbs : bsz w b = us.length := by unfold bsz; rw [q1]; simp
  have hzr : (Builtin.zeroCells z.cells n).toList.length = n * sz := by simp [size_zeroCells, hsz]
  have hfit : off + (Builtin.zeroCells z.cells n).toList.length ≤ us.length := by
    rw [hzr, ← hbs]
    exact Nat.le_trans (Nat.add_le_add_left (Nat.mul_le_mul_right _ k2) _) k4
  have hone : ∀ u ∈ (Builtin.zeroCells z.cells n).toList, u.oneCell' = true := fun u hu' => by
    have : u ∈ zs := by
      rw [← hz2]
      simp only [Builtin.zeroCells, Array.toList_map, List.mem_map] at hu'
      obtain ⟨k, hk, rfl⟩ := hu'
      rcases Nat.eq_zero_or_pos z.cells.size with q | q
      · simp [q] at hk
      · have : k % z.cells.size < z.cells.size := Nat.mod_lt _ q
        simp [getElem!_def, this]
    exact List.all_eq_true.1 h1 u this
  obtain ⟨s1, s2, s3, s4⟩ := heap_row_turn (P := P) q1 (off := off) hfit hone
  unfold Oper.wp
  have hrun : (execOp a.eval ⟨none, .call { callee := .builtin .clear, args := #[x], argTypes := #[t] }, ty, pos, af, gd⟩).run P w = .ok (.value (.tuple #[])) (w.setRow b (splice us off (Builtin.zeroCells z.cells n).toList).toArray) := by
    obtain ⟨m, rfl⟩ : ∃ m, n = m + 1 := ⟨n - 1, by omega⟩
    simp [execOp, resolve, invoke, builtin, hv, Builtin.clear_, run_underlying hu, hz1, s1]
  rw [hrun, Oper.upon_value]
  have hk : Keeps (KK C.K0 ρ Γ) (KK C.K0 ρ Γ) w (w.setRow b (splice us off (Builtin.zeroCells z.cells n).toList).toArray) := fun b' hb' hn => ⟨s3.block b' hb' (fun e => hn (.inr ⟨g, ⟨_, hg, hd⟩, by rw [hb]; cases e; rfl⟩)), Nat.lt_of_lt_of_le hb' s3.size, hn⟩
  have htl : (cs.take off).length = off := by simp; omega
  have key : ∀ T' sz' cs', (AO.row T' sz' cs').rep (KK C.K0 ρ Γ) w (some b) → cs' = cs → (AO.row T' sz' (cs.take off)).rep (KK C.K0 ρ Γ) (w.setRow b (splice us off (Builtin.zeroCells z.cells n).toList).toArray) (some b) := fun T' sz' cs' hrep ecs => by
    subst ecs
    rcases hrep with ⟨q, _⟩ | ⟨b', us', cap, q, p1, p2, p3, p4, p5, p6⟩
    · cases q
    · cases q
      have p1' := p1
      rw [q1] at p1
      simp only [Option.some.injEq, Obj.cells.injEq, List.toArray_inj] at p1
      have eu : us = us' := by simpa using p1.1
      have et : T = T' := p1.2.1
      subst eu; subst et
      refine .inr ⟨b, _, cap, rfl, s2, ?_, p3, ?_, ?_, ?_⟩
      · rw [splice_length hfit]; exact p2
      · rw [htl, splice_length hfit]; omega
      · rw [htl, show (splice us off (Builtin.zeroCells z.cells n).toList).take off = us.take off by
          unfold splice; rw [List.append_assoc, List.take_append_of_le_length (by simp; omega), List.take_take, Nat.min_self]]
        have := repL_take off p5
        rw [List.take_take, Nat.min_eq_left hle] at this
        exact repL_mono hk _ _ this
      · intro u hu'
        rw [htl, show (splice us off (Builtin.zeroCells z.cells n).toList).take off = us.take off by
          unfold splice; rw [List.append_assoc, List.take_append_of_le_length (by simp; omega), List.take_take, Nat.min_self]] at hu'
        refine p6 u ?_
        rw [← Nat.min_eq_left hle, ← List.take_take] at hu'
        exact List.mem_of_mem_take hu'
  refine ⟨ρ, h.turn ⟨_, hg, hd⟩ hb s3 s4 (AO.re_dead _ _ hd) (fun o' ho' => by rw [hg] at ho'; cases ho'; exact (AO.re_key _ _).symm) ?_⟩
  cases o with
  | dead => exact absurd rfl hd
  | box T cs' => simp at hrow
  | mbox k' T cs' => simp at hrow
  | nrow u n T sz cs' => simp at hrow
  | obj _ _ => simp at hrow
  | row T' sz' cs' => simp only [AO.cells, Option.some.injEq] at ho; exact key T' sz' cs' hr ho
  | mrow k' T' sz' cs' => simp only [AO.cells, Option.some.injEq] at ho; exact key T' sz' cs' hr ho
def u8s (P : Program) (t : TypeId) : Option TypeId := match P.underlying t with
  | some (.slice e) => match P.underlying e with
    | some (.int .u8) => some e
    | _ => none
  | _ => none
theorem u8s_parts {t e : TypeId} (h : u8s P t = some e) : P.underlying t = some (.slice e) ∧ P.underlying e = some (.int .u8) := by
  unfold u8s at h
  split at h
  · rename_i e' h1
    split at h
    · rename_i h2; cases h; exact ⟨h1, h2⟩
    · cases h
  · cases h
def uks (P : Program) (t : TypeId) : Bool := match P.underlying t with
  | some .string => true
  | _ => false
theorem uks_part {t : TypeId} (h : uks P t = true) : P.underlying t = some .string := by
  unfold uks at h
  split at h
  · assumption
  · cases h
theorem u8_get (l : List UInt8) (i : Nat) : (l.flatMap bdv)[i]? = (l[i]?).map fun b => .v (.int .u8 b.toNat) := by
  induction l generalizing i with
  | nil => simp
  | cons x r ih =>
    cases i with
    | zero => rfl
    | succ i => show ((DV.v (.int .u8 x.toNat)) :: r.flatMap bdv)[i + 1]? = _; simpa using ih i
theorem rd_cells {K : Nat → Prop} {w : World} {l : List UInt8} {b o : Nat} (h : repAt K w (l.flatMap bdv) b o) (j : Nat) (x : UInt8) (hj : l[j]? = some x) : w.cell? ⟨b, o + j, none⟩ = some (.int .u8 x.toNat) := by
  obtain ⟨u, h1, _, h2⟩ := repAt_get h (i := j) (X := .v (.int .u8 x.toNat)) (by rw [u8_get, hj]; rfl)
  unfold DV.rep at h2
  rw [h1, h2]
theorem u8_cells {K : Nat → Prop} {w : World} : ∀ {l : List UInt8} {b o : Nat}, (∀ j x, l[j]? = some x → w.cell? ⟨b, o + j, none⟩ = some (.int .u8 x.toNat)) → repAt K w (l.flatMap bdv) b o
  | [], b, o, h => by simp [repAt]
  | x :: r, b, o, h => by
    show repAt K w (DV.v (.int .u8 x.toNat) :: r.flatMap bdv) b o
    unfold repAt
    refine ⟨⟨_, h 0 x rfl, rfl, by simp [DV.rep]⟩, u8_cells fun j y hj => ?_⟩
    rw [show o + 1 + j = o + (j + 1) by omega]
    exact h (j + 1) y (by simpa using hj)
/-- []byte(s). -/
theorem OT.convsb {src dst e : TypeId} {x : Operand} {l : List UInt8} (hn : Nat.blt d C.n = true) (hx : evv L x = some (.string ⟨⟨l⟩⟩)) (hs : uks P src = true) (hd : u8s P dst = some e) (hl : l.length ≤ 1099511627776) :
    OT P C ⟨some d, .convert src dst x, ty, pos, af, gd⟩ L Γ (upd L d (.f (slT bdv 1 l))) Γ :=
  OT.turns fun ρ a w h => by
    obtain ⟨h1, h2⟩ := u8s_parts hd
    have hr := Lib.run_convert_string_bytes (P := P) w src dst e ⟨⟨l⟩⟩ (uks_part hs) h1 h2
    have hb : Below w.heap.size w (Lib.bytesWorld w e ⟨⟨l⟩⟩) := ⟨by simp [Lib.bytesWorld, World.freeze, World.alloc, World.drew, -World.alloc_eq, -World.drew_eq], rfl, by simp [Lib.bytesWorld, World.freeze, World.alloc, World.drew, -World.alloc_eq, -World.drew_eq], by rw [Lib.bytesWorld_size]; omega, fun k hk => Lib.bytesWorld_at_old w _ _ k hk⟩
    have hsz : (ByteArray.mk ⟨l⟩).size = l.length := rfl
    refine ⟨.slice (some ⟨w.heap.size, 0, none⟩) l.length (grownCap w l.length 0 e), Lib.bytesWorld w e ⟨⟨l⟩⟩, by simp only [execOp, evv_eval h hx, Sem.run_bind, hr, Result.andThen_ok, Sem.run_pure]; rfl, ρ, (h.ext hb).put (by simpa using hn) ?_ (fun g hg => by simp [AV.id] at hg)⟩
    show DV.rep _ _ (.sl 1 l.length (l.flatMap bdv)) _
    unfold DV.rep
    refine .inr ⟨w.heap.size, 0, _, rfl, grownCap_ge w l.length 0 _, grownCap_le_maxLen w l.length 0 _ (by unfold maxLen; omega), flat_length (enc := bdv) (fun _ => rfl) l, .inr ⟨by rw [Lib.bytesWorld_size]; omega, fun hk => ?_⟩, u8_cells fun j x hj => ?_⟩
    · have := kk_lt h w.heap.size hk; omega
    · have hj' := (List.getElem?_eq_some_iff.1 hj).1
      rw [Nat.zero_add, Lib.bytesWorld_cell w e ⟨⟨l⟩⟩ j hj']
      simp [hj]
/-- string(b). -/
theorem conv_bytes {src dst e : TypeId} {l : List UInt8} {v : Value} {w : World} (hs : u8s P src = some e) (hd : uks P dst = true) (h : (slT bdv 1 l).rep noK w v) : (convert src dst v).run P w = .ok (.string ⟨⟨l⟩⟩) w := by
  obtain ⟨h1, h2⟩ := u8s_parts hs
  unfold slT DV.rep at h
  rcases h with ⟨rfl, hn, _⟩ | ⟨b, o, c, rfl, k1, k2, k3, k4, k5⟩
  · have : l = [] := List.eq_nil_of_length_eq_zero hn
    subst this
    exact run_convert_bytes_nil w src e h1 h2 0 0 _ (uks_part hd)
  · refine run_convert_bytes_back w _ _ _ ⟨b, o, none⟩ c l h1 h2 (uks_part hd) (fun j hj => ?_)
    rw [addr_add]
    exact rd_cells k5 j l[j] (List.getElem?_eq_getElem hj)
theorem OT.convbs {src dst e : TypeId} {x : Operand} {l : List UInt8} {A : AV} (hn : Nat.blt d C.n = true) (hx : ev L x = some A) (hA : rdv Γ A = some (slT bdv 1 l)) (hok : okr Γ A) (hs : u8s P src = some e) (hd : uks P dst = true) :
    OT P C ⟨some d, .convert src dst x, ty, pos, af, gd⟩ L Γ (upd L d (.f (.v (.string ⟨⟨l⟩⟩)))) Γ :=
  OT.value hn (fun g hg => by simp [AV.id] at hg) fun ρ a w h => ⟨_, by simp [execOp, conv_bytes hs hd (evr_rep h hx hA hok)], rfl⟩
end
end Go.Proofs.YtdjcclcejmeheaaGreat.Pl
end
section
namespace Go.Proofs.YtdjcclcejmeheaaGreat.Pl
set_option linter.unusedVariables false
set_option linter.unusedSimpArgs false
open Go.RowKit
section
variable {P : Program} {C : Cx} {L : Lo} {Γ : Ga} {d : Nat} {ty : TypeId} {pos : String} {af : Array Edge} {gd : Option (Nat × Bool)}
end
theorem TC.frz {P : Program} {C : Cx} {L : Lo} {Γ : Ga} {c : Code} {Q : Exit → Act → World → Prop} (t : Nat) (Y : DV) {g n sz e : Nat} {cs : List DV} (ht : L t = some (.ow g n sz)) (hg : Γ g = some (.row e sz cs)) (hl : cs.length = n * sz) (he : DV.sl sz n cs = Y) (k : TC P C c Q (upd L t (.d Y)) (upd Γ g .dead)) : TC P C c Q L Γ := by
  subst he
  exact fun a w h => k a w (reps_freeze t ht hg hl h)
theorem TC.obj {P : Program} {C : Cx} {L : Lo} {Γ : Ga} {c : Code} {Q : Exit → Act → World → Prop} (g : Nat) {o : AO} (o' : AO) (hg : Γ g = some o) (he : o = o') (k : TC P C c Q L (upd Γ g o')) : TC P C c Q L Γ := by
  subst he
  have : upd Γ g o = Γ := by
    funext s; by_cases e : s = g
    · subst e; rw [upd_same, hg]
    · rw [upd_other _ _ _ _ e]
  rw [this] at k; exact k
/-- Less is said of a value. -/
def Sub (X Y : DV) : Prop := ∀ K w u, X.rep K w u → Y.rep K w u
def SubL (Xs Ys : List DV) : Prop := ∀ K w us, repL K w Xs us → repL K w Ys us
theorem Sub.refl (X : DV) : Sub X X := fun _ _ _ h => h
theorem nil_sub {α : Type} (enc : α → List DV) (sz : Nat) : Sub (.v (.slice none 0 0)) (slT enc sz []) := fun K w u h => by
  unfold DV.rep at h; subst h
  unfold slT DV.rep; exact .inl ⟨rfl, rfl, rfl⟩
theorem subL_nil : SubL [] [] := fun _ _ _ h => h
theorem subL_cons {X Y : DV} {Xs Ys : List DV} (h : Sub X Y) (k : SubL Xs Ys) : SubL (X :: Xs) (Y :: Ys) := fun K w us hr => by
  unfold repL at hr ⊢
  obtain ⟨u, t, rfl, h1, h2⟩ := hr
  exact ⟨u, t, rfl, h _ _ _ h1, k _ _ _ h2⟩
theorem sub_ag {Xs Ys : List DV} (k : SubL Xs Ys) : Sub (.ag Xs) (.ag Ys) := fun K w u hr => by
  unfold DV.rep at hr ⊢
  obtain ⟨us, e, h⟩ := hr
  exact ⟨us, e, k _ _ _ h⟩
theorem reps_sub {C : Cx} {L : Lo} {Γ : Ga} {a : Act} {w : World} (t : Nat) (Y : DV) {A : AV} {X : DV} (ht : L t = some A) (hA : A.dv = some X) (h : Sub X Y) (hr : Reps C L Γ a w) : Reps C (upd L t (A.re Y)) Γ a w := by
  obtain ⟨ρ, hr⟩ := hr
  refine ⟨ρ, hr.reslot ?_ (fun g hg => absurd hg (AV.re_id A Y g))⟩
  exact AV.re_rep (hr.slot t A ht) hA (fun J hJ => h _ _ _ hJ)
theorem TL.sub {P : Program} {C : Cx} {L : Lo} {Γ : Ga} {ops : Array Oper} {Q : Exit → Act → World → Prop} {rest : List Oper} (t : Nat) (Y : DV) {A : AV} {X : DV} (ht : L t = some A) (hA : A.dv = some X) (h : Sub X Y) (k : TL P C ops Q rest (upd L t (A.re Y)) Γ) : TL P C ops Q rest L Γ := fun a w hr => k a w (reps_sub t Y ht hA h hr)
theorem TE.sub {C : Cx} {L : Lo} {Γ : Ga} {R : Act → World → Prop} (t : Nat) (Y : DV) {A : AV} {X : DV} (ht : L t = some A) (hA : A.dv = some X) (h : Sub X Y) (k : TE C R (upd L t (A.re Y)) Γ) : TE C R L Γ := fun a w hr => k a w (reps_sub t Y ht hA h hr)
end Go.Proofs.YtdjcclcejmeheaaGreat.Pl
end
section
namespace Go.Proofs.YtdjcclcejmeheaaGreat.Pl
set_option linter.unusedVariables false
set_option linter.unusedSimpArgs false
open Go.RowKit
def ShpN (g : List DV → Prop) : Nat → List DV → Prop
  | 0, cs => cs = []
  | n + 1, cs => ∃ a b, cs = a ++ b ∧ g a ∧ ShpN g n b
def ShpF (g : TypeId → List DV → Prop) : List Field → List DV → Prop
  | [], cs => cs = []
  | f :: fs, cs => ∃ a b, cs = a ++ b ∧ g f.type a ∧ ShpF g fs b
/-- Cells of a type, as data. -/
def Shp (P : Program) : Nat → TypeId → List DV → Prop
  | 0, _, _ => False
  | d + 1, t, cs => match P.underlying t with
    | some .bool => ∃ b, cs = [.v (.bool b)]
    | some (.int k) => ∃ n, cs = [.v (.int k n)] ∧ (Lit.int k n).wf = true
    | some .string => ∃ l, cs = [.v (.string ⟨⟨l⟩⟩)] ∧ l.length ≤ maxLen
    | some (.array n e) => ShpN (Shp P d e) n cs
    | some (.struct fs) => ShpF (Shp P d) fs.toList cs
    | some (.slice e) => ∃ n ds, cs = [.sl (P.cellsOf e) n ds] ∧ ShpN (Shp P d e) n ds
    | _ => False
/-- Types whose cells lie one behind another. -/
def lyF (P : Program) (g : TypeId → Bool) : Nat → List Field → Option Nat
  | off, [] => some off
  | off, f :: fs => bif Nat.beq f.offset off && g f.type then lyF P g (off + P.cellsOf f.type) fs else none
def tyOK (P : Program) (sl : Bool) : Nat → TypeId → Bool
  | 0, _ => false
  | d + 1, t => match P.underlying t with
    | some .bool => true
    | some (.int _) => true
    | some .string => true
    | some (.array n e) => tyOK P sl d e && Nat.beq (n * P.cellsOf e) (P.cellsOf t)
    | some (.struct fs) => match lyF P (tyOK P sl d) 0 fs.toList with
      | some n => Nat.beq n (P.cellsOf t)
      | none => false
    | some (.slice e) => sl && (tyOK P false d e && Nat.blt 0 (P.cellsOf e))
    | _ => false
section
variable {H : Type} {enc : TypeId × Value → H} {P : Program} {w : World} {sp : Nat → Bool} {held : Bool}
/-- What is to be shown of cells. -/
def Ds (P : Program) (w : World) (d : Nat) (t : TypeId) (cs : List Value) : Prop := ∃ ds, repL noK w ds cs ∧ Shp P d t ds ∧ ∀ u ∈ cs, u.oneCell' = true
theorem ds_chunks {d : Nat} {e : TypeId} {m : Nat} : ∀ (n : Nat) (cs : List Value), cs.length = n * m → (∀ i, i < n → Ds P w d e ((cs.drop (i * m)).take m)) → ∃ ds, repL noK w ds cs ∧ ShpN (Shp P d e) n ds ∧ ∀ u ∈ cs, u.oneCell' = true
  | 0, cs, hl, _ => by
    have : cs = [] := List.eq_nil_of_length_eq_zero (by simpa using hl)
    subst this
    exact ⟨[], by simp [repL], rfl, by simp⟩
  | n + 1, cs, hl, h => by
    obtain ⟨a, h1, h2, h3⟩ := h 0 (by omega)
    simp only [Nat.zero_mul, List.drop_zero] at h1 h3
    obtain ⟨b, k1, k2, k3⟩ := ds_chunks (m := m) n (cs.drop m) (by rw [List.length_drop, hl, Nat.succ_mul]; omega) (fun i hi => by
      have := h (i + 1) (by omega)
      rwa [List.drop_drop, Nat.add_comm m, ← Nat.succ_mul])
    refine ⟨a ++ b, by rw [← List.take_append_drop m cs]; exact repL_append h1 k1, ⟨a, b, rfl, h2, k2⟩, fun u hu => ?_⟩
    rw [← List.take_append_drop m cs] at hu
    exact (List.mem_append.1 hu).elim (h3 u) (k3 u)
theorem ds_fields {d : Nat} {g : TypeId → Bool} : ∀ (fs : List Field) (off n : Nat) (cs : List Value), lyF P g off fs = some n → cs.length = n → (∀ f ∈ fs, g f.type = true → Ds P w d f.type ((cs.drop f.offset).take (P.cellsOf f.type))) → ∃ ds, repL noK w ds (cs.drop off) ∧ ShpF (Shp P d) fs ds ∧ ∀ u ∈ cs.drop off, u.oneCell' = true
  | [], off, n, cs, hl, hn, _ => by
    simp only [lyF, Option.some.injEq] at hl
    have : cs.drop off = [] := List.drop_eq_nil_of_le (by omega)
    rw [this]
    exact ⟨[], by simp [repL], rfl, by simp⟩
  | f :: fs, off, n, cs, hl, hn, h => by
    unfold lyF at hl
    cases hc : (Nat.beq f.offset off && g f.type) with
    | false => rw [hc] at hl; simp at hl
    | true =>
      rw [hc, cond_true] at hl
      simp only [Bool.and_eq_true, Nat.beq_eq] at hc
      obtain ⟨a, h1, h2, h3⟩ := h f (by simp) hc.2
      rw [hc.1] at h1 h3
      obtain ⟨b, k1, k2, k3⟩ := ds_fields fs (off + P.cellsOf f.type) n cs hl hn (fun f' hf' => h f' (by simp [hf']))
      have e : cs.drop off = (cs.drop off).take (P.cellsOf f.type) ++ cs.drop (off + P.cellsOf f.type) := by
        rw [← List.drop_drop, List.take_append_drop]
      rw [e]
      exact ⟨a ++ b, repL_append h1 k1, ⟨a, b, rfl, h2, k2⟩, fun u hu => (List.mem_append.1 hu).elim (h3 u) (k3 u)⟩
theorem cells_get {base : Nat} {a : Addr} {n : Nat} {cs : List Value} (h : w.cells? base a n = some cs) : cs.length = n ∧ ∀ j u, cs[j]? = some u → w.cell? (a.add j) = some u := by
  unfold World.cells? at h
  split at h
  · refine ⟨by simpa using mapM_some_length h, fun j u hj => ?_⟩
    have hlt : j < n := by
      have := (List.getElem?_eq_some_iff.1 hj).1
      have h2 := mapM_some_length h
      simp at h2; omega
    have := mapM_some_get h j j (by simp [hlt])
    rw [this, hj]
  · cases h
theorem ds_one {d : Nat} {t : TypeId} {u : Value} {X : DV} (hr : X.rep noK w u) (hs : Shp P d t [X]) (h1 : u.oneCell' = true) : Ds P w d t [u] := ⟨[X], by unfold repL; exact ⟨u, [], rfl, hr, by simp [repL]⟩, hs, by simpa using h1⟩
/-- Cells that can be read are data; a slice that is met has an address of a block. -/
theorem trod_ds (sl : Bool) : ∀ (d : Nat) (t : TypeId) (n : Nat) (cs : List Value) (x : DataW H × List MemPlace), tyOK P sl d t = true → DataW.trod enc P w 0 sp held n t cs = some x → (sl = true → ∀ a l c, .slice (some a) l c ∈ cs → a.spot = none) → Ds P w d t cs
  | 0, t, n, cs, x, hok, _, _ => by simp [tyOK] at hok
  | d + 1, t, 0, cs, x, hok, h, _ => by simp [DataW.trod] at h
  | d + 1, t, n + 1, cs, x, hok, h, hsp => by
    unfold tyOK at hok
    split at hok
    · rename_i hu
      unfold DataW.trod at h; rw [hu] at h
      split at h <;> simp_all
      exact ds_one (X := .v (.bool _)) (by unfold DV.rep; rfl) (by unfold Shp; rw [hu]; exact ⟨_, rfl⟩) rfl
    · rename_i k hu
      unfold DataW.trod at h; rw [hu] at h
      split at h <;> simp_all
      exact ds_one (X := .v (.int _ _)) (by unfold DV.rep; rfl) (by unfold Shp; rw [hu]; exact ⟨_, rfl, h.1.2⟩) rfl
    · rename_i hu
      unfold DataW.trod at h; rw [hu] at h
      split at h <;> simp_all
      rename_i s
      exact ds_one (X := .v (.string s)) (by unfold DV.rep; rfl) (by unfold Shp; rw [hu]; exact ⟨s.data.toList, rfl, h.1⟩) rfl
    · rename_i m e hu
      simp only [Bool.and_eq_true, Nat.beq_eq] at hok
      obtain ⟨xs, q, hq, _, hl, hx, hel⟩ := DataW.trod_array hu h
      obtain ⟨ds, k1, k2, k3⟩ := ds_chunks (P := P) (w := w) (d := d) (e := e) (m := P.cellsOf e) m cs (by rw [hl, hok.2]) (fun i hi => by
        have hg := hel i hi
        rw [List.getElem?_eq_getElem (by omega)] at hg
        refine trod_ds sl d e q _ _ hok.1 hg (fun hs a l c hm => hsp hs a l c (List.mem_of_mem_drop (List.mem_of_mem_take hm))))
      exact ⟨ds, k1, by unfold Shp; rw [hu]; exact k2, k3⟩
    · rename_i fs hu
      split at hok
      · rename_i m hm
        simp only [Nat.beq_eq] at hok
        obtain ⟨xs, q, hq, _, hl, hx, hel⟩ := DataW.trod_struct hu h
        obtain ⟨ds, k1, k2, k3⟩ := ds_fields (P := P) (w := w) (d := d) (g := tyOK P sl d) fs.toList 0 m cs hm (by rw [hl, hok]) (fun f hf hg => by
          obtain ⟨i, hi⟩ := List.getElem?_of_mem hf
          have hi' : fs[i]? = some f := by simpa using hi
          have hg2 := hel i f hi'
          have hlt : i < xs.length := by rw [hx]; exact (Array.getElem?_eq_some_iff.1 hi').1
          rw [List.getElem?_eq_getElem hlt] at hg2
          exact trod_ds sl d f.type q _ _ hg hg2 (fun hs a l c hm => hsp hs a l c (List.mem_of_mem_drop (List.mem_of_mem_take hm))))
        simp only [List.drop_zero] at k1 k3
        exact ⟨ds, k1, by unfold Shp; rw [hu]; exact k2, k3⟩
      · cases hok
    · rename_i e hu
      simp only [Bool.and_eq_true, Nat.blt_eq] at hok
      obtain ⟨hs, hoe, hpos⟩ := hok
      rcases DataW.trod_slice hu h with ⟨rfl, _⟩ | ⟨a, len, cap, elems, rest, q, hq, rfl, _, hb, hle, hm, hlen, hel, _, _⟩
      · exact ds_one (X := .sl (P.cellsOf e) 0 []) (by unfold DV.rep; exact .inl ⟨rfl, rfl, rfl⟩) (by unfold Shp; rw [hu]; exact ⟨0, [], rfl, rfl⟩) rfl
      · have hspot : a.spot = none := hsp hs a len cap (by simp)
        obtain ⟨b, o, s⟩ := a
        have hs' : s = none := hspot
        subst hs'
        have each : ∀ i, i < len → ∃ cs', w.cells? 0 (⟨b, o + i * P.cellsOf e, none⟩ : Addr) (P.cellsOf e) = some cs' ∧ Ds P w d e cs' := fun i hi => by
          have := hel i hi
          rw [List.getElem?_eq_getElem (by omega), Option.bind_eq_some_iff, addr_add] at this
          obtain ⟨cs', h1, h2⟩ := this
          exact ⟨cs', h1, trod_ds false d e q cs' _ hoe h2 (fun hs => by cases hs)⟩
        have key : ∀ (k n o' : Nat), n + k = len → o' = o + n * P.cellsOf e → ∃ ds, repAt noK w ds b o' ∧ ShpN (Shp P d e) k ds ∧ ds.length = k * P.cellsOf e := by
          intro k
          induction k with
          | zero => intro n o' _ _; exact ⟨[], by unfold repAt; trivial, rfl, by simp⟩
          | succ k ih =>
            intro n o' hn ho
            obtain ⟨cs', h1, ds, h2, h3, h4⟩ := each n (by omega)
            obtain ⟨hl, hc⟩ := cells_get h1
            rw [← ho] at hc
            obtain ⟨ds2, j1, j2, j3⟩ := ih (n + 1) (o' + P.cellsOf e) (by omega) (by rw [ho, Nat.succ_mul]; omega)
            have r1 : repAt noK w ds b o' := repAt_of_cells h2 (fun j u hj => by have := hc j u hj; rwa [addr_add] at this) h4
            have hdl : ds.length = P.cellsOf e := by rw [← repL_length h2, hl]
            refine ⟨ds ++ ds2, ?_, ⟨ds, ds2, rfl, h3, j2⟩, by rw [List.length_append, hdl, j3, Nat.succ_mul]; omega⟩
            rw [← hdl] at j1
            exact repAt_app r1 j1
        obtain ⟨ds, k1, k2, k3⟩ := key len 0 o (by omega) (by omega)
        refine ds_one (X := .sl (P.cellsOf e) len ds) ?_ (by unfold Shp; rw [hu]; exact ⟨len, ds, rfl, k2⟩) rfl
        unfold DV.rep
        refine .inr ⟨b, o, cap, rfl, hle, hm, k3, ?_, k1⟩
        cases hd : ds with
        | nil => exact .inl rfl
        | cons X Xs =>
          refine .inr ⟨?_, fun hh => hh⟩
          rw [hd] at k1
          unfold repAt at k1
          obtain ⟨⟨u, hc, _⟩, _⟩ := k1
          exact World.block_lt_of_cell? w _ hc
    · cases hok
where
  repAt_app {K : Nat → Prop} {w : World} : ∀ {cs ds : List DV} {b o : Nat}, repAt K w cs b o → repAt K w ds b (o + cs.length) → repAt K w (cs ++ ds) b o
  | [], ds, b, o, _, h => by simpa using h
  | X :: Xs, ds, b, o, h, k => by
    unfold repAt at h
    rw [List.cons_append]
    unfold repAt
    exact ⟨h.1, repAt_app h.2 (by rw [List.length_cons] at k; rwa [show o + 1 + Xs.length = o + (Xs.length + 1) by omega])⟩
/-- An argument. -/
def ShV (P : Program) (d : Nat) (t : TypeId) (X : DV) : Prop := match P.underlying t with
  | some (.array _ _) => ∃ ds, X = .ag ds ∧ Shp P d t ds
  | some (.struct _) => ∃ ds, X = .ag ds ∧ Shp P d t ds
  | _ => Shp P d t [X]
theorem okw_spot {r : Reach} {base : Nat} {u : TypeId} {a : Addr} {l c : Nat} (h : Cell.okWide P w r base u (.slice (some a) l c)) : a.spot = none := by
  unfold Cell.okWide at h
  have h2 : Cell.ok P w r base u (.slice (some a) l c) := by
    split at h <;> first | exact h | (rename_i e; cases e)
  unfold Cell.ok at h2
  split at h2 <;> first | (rename_i e; cases e; done) | skip
  · rename_i e1 e2
    cases e2
    exact h2.2.2.2.1
  · cases h2
theorem value_spots {r : Reach} {base : Nat} {t : TypeId} {v : Value} (h : Value.okWide P w r base t v) (a : Addr) (l c : Nat) (hm : .slice (some a) l c ∈ v.cells.toList) : a.spot = none := by
  have row : ∀ cs, Row.okWide P w r base t cs → .slice (some a) l c ∈ cs.toList → a.spot = none := fun cs ⟨ts, _, _, hc⟩ hm => by
    obtain ⟨i, hi⟩ := List.getElem?_of_mem hm
    obtain ⟨u, _, hu⟩ := hc i _ (by simpa using hi)
    exact okw_spot hu
  unfold Value.okWide at h
  split at h
  · obtain ⟨cs, rfl, _, hr⟩ := h; exact row cs hr (by simpa [Value.cells] using hm)
  · obtain ⟨cs, rfl, _, hr⟩ := h; exact row cs hr (by simpa [Value.cells] using hm)
  · cases v <;> simp [Value.cells] at hm
    · obtain ⟨rfl, rfl, rfl⟩ := hm; exact okw_spot h
    · rename_i cs
      exfalso
      unfold Cell.okWide at h
      split at h <;> first | (rename_i e; cases e; done) | skip
      unfold Cell.ok at h
      split at h <;> first | (rename_i e; cases e; done) | cases h
/-- Whatever comes in reads as data of its type. -/
theorem open_dv {base : Nat} {t : TypeId} {v : Value} {x : DataW H} {ps : List MemPlace} (d : Nat) (hok : tyOK P true d t = true) (hval : Value.okWide P w .any base t v) (h : DataW.Trod enc P w 0 sp held t v x ps) : ∃ X, X.rep noK w v ∧ ShV P d t X := by
  obtain ⟨n, hn⟩ := h
  obtain ⟨ds, h1, h2, h3⟩ := trod_ds true d t n _ _ hok hn (fun _ => value_spots hval)
  have agg : ∀ cs : Array Value, v = .agg cs → (DV.ag ds).rep noK w v := fun cs e => by
    subst e
    unfold DV.rep
    exact ⟨cs.toList, by simp, by simpa [Value.cells] using h1⟩
  have one : (∀ cs, v ≠ .agg cs) → v.cells.toList = [v] := fun h => by cases v <;> simp [Value.cells] at h ⊢
  have hne : ∀ u, P.underlying t = some u → (∀ m e, u ≠ .array m e) → (∀ fs, u ≠ .struct fs) → ∀ cs, v ≠ .agg cs := fun u hu n1 n2 cs e => by
    subst e
    unfold Value.okWide at hval
    rw [hu] at hval
    split at hval
    · rename_i e; cases e; exact n2 _ rfl
    · rename_i e; cases e; exact n1 _ _ rfl
    · unfold Cell.okWide at hval
      split at hval <;> first | (rename_i e; cases e; done) | skip
      unfold Cell.ok at hval
      split at hval <;> first | (rename_i e; cases e; done) | cases hval
  have sing : (∀ cs, v ≠ .agg cs) → ∃ X, ds = [X] ∧ X.rep noK w v := fun hh => by
    rw [one hh] at h1
    match ds, h1 with
    | [], h1 => simp [repL] at h1
    | [X], h1 =>
      unfold repL at h1
      obtain ⟨u, r, e, h4, h5⟩ := h1
      cases e
      exact ⟨X, rfl, h4⟩
    | X :: Y :: r, h1 =>
      unfold repL at h1
      obtain ⟨u, r, e, h4, h5⟩ := h1
      cases e
      unfold repL at h5
      obtain ⟨_, _, e, _⟩ := h5
      cases e
  unfold ShV
  cases hu : P.underlying t with
  | none => unfold Shp at h2; cases d with | zero => exact h2.elim | succ d => simp only [Shp, hu] at h2
  | some u =>
    have hv := hval
    unfold Value.okWide at hv
    rw [hu] at hv
    cases u with
    | array m e => obtain ⟨cs, e, _, _⟩ := hv; exact ⟨_, agg cs e, ds, rfl, h2⟩
    | struct fs => obtain ⟨cs, e, _, _⟩ := hv; exact ⟨_, agg cs e, ds, rfl, h2⟩
    | _ =>
      obtain ⟨X, rfl, hX⟩ := sing (hne _ hu (by intro _ _ e; cases e) (by intro _ e; cases e))
      exact ⟨X, hX, h2⟩
end
end Go.Proofs.YtdjcclcejmeheaaGreat.Pl
end
section
namespace Go.Proofs.YtdjcclcejmeheaaGreat
set_option linter.unusedVariables false
set_option linter.unusedSimpArgs false
open Go.RowKit Pl
theorem get_nat {α : Type} {l : List α} {k : Nat} (h : k < l.length) : l[((k : Nat) : Int).toNat]? = some l[k] := by rw [Int.toNat_natCast]; exact List.getElem?_eq_getElem h
theorem wrap_succ {k n : Nat} (h : k < n) (hn : n ≤ 140737488355328) : IntKind.i64.wrap ((k : Int) + 1) = ((k + 1 : Nat) : Int) := by rw [IntKind.wrap_i64]; omega
theorem take_snoc' {α : Type} {l : List α} {k : Nat} (h : k < l.length) : l.take (k + 1) = l.take k ++ [l[k]] := by rw [List.take_succ_eq_append_getElem h]
theorem wrap_nat (n : Nat) (h : n ≤ 281474976710656) : IntKind.i64.wrap (n : Int) = n := by rw [IntKind.wrap_i64]; omega
end Go.Proofs.YtdjcclcejmeheaaGreat
end

