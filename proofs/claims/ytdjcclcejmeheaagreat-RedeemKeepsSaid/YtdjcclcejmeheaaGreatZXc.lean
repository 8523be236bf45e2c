import Derived.Test.YtdjcclcejmeheaaGreatZXa
/-
  A logic of walks: what stands between the stretches: single operations, tests, loops, regions that draw their order, ends.
-/
namespace Go.Proofs.YtdjcclcejmeheaaGreat.Pl
set_option linter.unusedVariables false
set_option linter.unusedSimpArgs false
set_option linter.unusedSectionVars false
open Go.RowKit
section
variable {P : Program} [V : Env P] {C : Cx} {Q : Exit → Act → World → Prop} {L L' L2 : Lo} {Γ Γ' Γ2 : Ga} {p p' : Pt} {S S' : List Fx} {m' : Nat}
theorem TC.w {c : Code} (h : TE C (Pt.wp P Q [] (.c c)) L Γ) : TC P C c Q L Γ := h
theorem TE.g (k m : Nat) (h : go P C.n 999 k p S L Γ m = some ⟨p', S', L', Γ', m'⟩) (w : TE C (p'.wp P Q S') L' Γ') : TE C (p.wp P Q S) L Γ := go_ok 999 h w
/-- One operation by a law of its own. -/
theorem TE.t (k m : Nat) {all r : List Oper} {o : Oper} (h : go P C.n 999 k p S L Γ m = some ⟨.o all (o :: r), S', L', Γ', m'⟩) (hw : wt C.n all L' o.guard = some true) (h2 : OT P C o L' Γ' L2 Γ2) (w : TE C (Pt.wp P Q S' (.o all r)) L2 Γ2) : TE C (p.wp P Q S) L Γ := go_ok 999 h (TL.wt hw h2 w)
theorem TE.s {all r : List Oper} {o : Oper} (hw : wt C.n all L o.guard = some true) (h2 : OT P C o L Γ L2 Γ2) (w : TE C (Pt.wp P Q S (.o all r)) L2 Γ2) : TE C (Pt.wp P Q S (.o all (o :: r))) L Γ := TL.wt hw h2 w
theorem TE.q (k m : Nat) {c : Operand} {x y : Code} {b : Bool} (h : go P C.n 999 k p S L Γ m = some ⟨.c (.cond c x y), S', L', Γ', m'⟩) (hc : evv L' c = some (.bool b)) (h1 : b = true → TE C (Pt.wp P Q S' (.c x)) L' Γ') (h2 : b = false → TE C (Pt.wp P Q S' (.c y)) L' Γ') : TE C (p.wp P Q S) L Γ :=
  go_ok 999 h fun a w ⟨ρ, hr⟩ => wp_cond_split (P := P) (evv_eval hr hc) (fun e => h1 e a w ⟨ρ, hr⟩) (fun e => h2 e a w ⟨ρ, hr⟩)
theorem TE.z (k m : Nat) {x : Exit} (h : go P C.n 999 k p S L Γ m = some ⟨.e x, [], L', Γ', m'⟩) (w : TE C (Q x) L' Γ') : TE C (p.wp P Q S) L Γ := go_ok 999 h w
theorem TE.case {R : Act → World → Prop} (t : Nat) {b : Bool} (ht : L t = some (.f (.v (.bool b)))) (h1 : b = true → TE C R (upd L t (.f (.v (.bool true)))) Γ) (h2 : b = false → TE C R (upd L t (.f (.v (.bool false)))) Γ) : TE C R L Γ := by
  cases b with
  | true => exact TE.set t _ ht rfl (h1 rfl)
  | false => exact TE.set t _ ht rfl (h2 rfl)
theorem okv {A : AV} {u : Value} (h : A.dv = some (.v u)) : okF A := by
  cases A with
  | d X => simp only [AV.dv, Option.some.injEq] at h; subst h; exact pl_v u
  | f X => trivial
  | _ => cases h
def kl {α : Type} (L : Nat → Option α) : List Nat → Option (List (Nat × α))
  | [] => some []
  | t :: r => match L t with
    | some X => match kl L r with | some l => some ((t, X) :: l) | none => none
    | none => none
theorem kl_all {σ : Nat → Nat} : ∀ {l : List (Nat × AV)}, l.map (fun p => L p.1) = l.map (fun p => some (p.2.ren σ)) → l.all (fun p => okid Γ p.2) = true → allL σ L Γ l
  | [], _, _ => trivial
  | (t, X) :: r, h, k => by
    have h1 := List.cons.inj h
    simp only [List.all_cons, Bool.and_eq_true] at k
    exact ⟨⟨h1.1, k.1⟩, kl_all h1.2 k.2⟩
theorem kg_all {σ : Nat → Nat} : ∀ {l : List (Nat × AO)}, l.map (fun p => Γ (σ p.1)) = l.map (fun p => some p.2) → allG σ Γ l
  | [], _ => trivial
  | (t, X) :: r, h => by
    have h1 := List.cons.inj h
    exact ⟨.inr h1.1, kg_all h1.2⟩
theorem TE.lo {T : Type} (k m : Nat) {c : Code} (h : go P C.n 999 k p S L Γ m = some ⟨.c (.loop c), S', L', Γ', m'⟩) (Inv : T → Prop) (μ : T → Nat) (ts : List Nat) (gs : List Nat) (Lf : T → List (Nat × AV)) (Gf : T → List (Nat × AO)) (x0 : T) {kp : List (Nat × AV)} {kg : List (Nat × AO)} (hk : kl L' ts = some kp) (hg : kl Γ' gs = some kg)
    (h0 : Inv x0) (hl : (Lf x0 ++ kp).map (fun p => L' p.1) = (Lf x0 ++ kp).map (fun p => some (p.2.ren id))) (ho : (Lf x0 ++ kp).all (fun p => okid (ls (Gf x0 ++ kg)) p.2) = true) (hm : (Gf x0 ++ kg).map (fun p => Γ' (id p.1)) = (Gf x0 ++ kg).map (fun p => some p.2))
    (round : ∀ x, Inv x → TE C (Pt.wp P Q (.lp (fun a w => ∃ k', k' < μ x ∧ ∃ y, Inv y ∧ μ y = k' ∧ Reps C (ls (Lf y ++ kp)) (ls (Gf y ++ kg)) a w) :: S') (.c c)) (ls (Lf x ++ kp)) (ls (Gf x ++ kg))) : TE C (p.wp P Q S) L Γ :=
  go_ok 999 h (TC.loop Inv μ (fun x => Lf x ++ kp) (fun x => Gf x ++ kg) x0 h0 (kl_all hl ho) (kg_all hm) round)
theorem TE.rd {T : Type} (k m : Nat) (σ : Nat → Nat) (hσ : ∀ x y, σ x = σ y → x = y) {Inv : T → Prop} {μ : T → Nat} {Lf : T → List (Nat × AV)} {Gf : T → List (Nat × AO)} {n : Nat}
    (h : go P C.n 999 k p S L Γ m = some ⟨.e .normal, .lp (fun a w => ∃ k', k' < n ∧ ∃ y, Inv y ∧ μ y = k' ∧ Reps C (ls (Lf y)) (ls (Gf y)) a w) :: S', L', Γ', m'⟩) (y : T) (hi : Inv y) (hk : μ y < n) (hl : (Lf y).map (fun p => L' p.1) = (Lf y).map (fun p => some (p.2.ren σ))) (ho : (Lf y).all (fun p => okid (ls (Gf y)) p.2) = true) (hm : (Gf y).map (fun p => Γ' (σ p.1)) = (Gf y).map (fun p => some p.2)) : TE C (p.wp P Q S) L Γ :=
  go_ok 999 h (TE.round (Q := den P Q S') σ hσ y hi hk (kl_all hl ho) (kg_all hm))
def DW (P : Program) (C : Cx) (all : List Oper) (R : Act → World → Prop) (pre : List Ro) (l : List Oper) (L : Lo) (Γ : Ga) : Prop := ∃ rs, l = rs.map (·.o) ∧ Obs P C all.toArray rs L Γ ∧ drawOK (pre.reverse ++ rs) = true ∧ TE C R (stL rs L) (stG rs Γ)
theorem DW.z {all : List Oper} {R : Act → World → Prop} {pre : List Ro} (hok : drawOK (pre.reverse ++ []) = true) (h : TE C R L Γ) : DW P C all R pre [] L Γ := ⟨[], rfl, trivial, hok, h⟩
theorem DW.cons {all r : List Oper} {R : Act → World → Prop} {pre : List Ro} {o : Oper} {E : Eff} {G : List Nat} (ho : Ob P C all.toArray ⟨o, E, G⟩ L Γ) (h : DW P C all R (⟨o, E, G⟩ :: pre) r (E.L L) (E.G Γ)) : DW P C all R pre (o :: r) L Γ := by
  obtain ⟨rs, h1, h2, h3, h4⟩ := h
  exact ⟨⟨o, E, G⟩ :: rs, by simp [h1], ⟨ho, h2⟩, by simpa using h3, h4⟩
theorem ob_true {all : List Oper} {o : Oper} {E : Eff} {G : List Nat} (hw : wt C.n all L o.guard = some true) (h : ∀ L1 Γ1, OT P C o (pin L (o.looksAt all.toArray) L1) (pin Γ G Γ1) (E.L (pin L (o.looksAt all.toArray) L1)) (E.G (pin Γ G Γ1))) : Ob P C all.toArray ⟨o, E, G⟩ L Γ := by
  unfold Ob
  unfold wt at hw
  cases hg : o.guard with
  | none => exact h
  | some x =>
    obtain ⟨j, want⟩ := x
    rw [hg] at hw
    dsimp only at hw ⊢
    split at hw
    · rename_i t ht
      have ht' : (all.toArray[j]?).bind (·.dst) = some t := by rw [List.getElem?_toArray]; exact ht
      have hmem : mem (o.looksAt all.toArray) t = true := by
        rw [mem_iff]; unfold Oper.looksAt; rw [hg]; simp only [ht']; simp
      split at hw
      · rename_i c hc
        cases hb : Nat.blt t C.n with
        | true =>
          rw [hb, cond_true] at hw
          have e : c = want := by simpa using hw
          exact .inr ⟨t, c, ht', hmem, hc, hb, by rw [if_pos e]; exact h⟩
        | false => rw [hb, cond_false] at hw; cases hw
      · cases hw
      · cases hw
    · cases hw
theorem ob_false {all : List Oper} {o : Oper} {d : Nat} (hw : wt C.n all L o.guard = some false) (hd : o.dst = some d) (hn : Nat.blt d C.n = true) : Ob P C all.toArray ⟨o, ⟨some (d, .f (.v (.tuple ⟨[]⟩))), []⟩, []⟩ L Γ := by
  unfold Ob
  unfold wt at hw
  cases hg : o.guard with
  | none => rw [hg] at hw; cases hw
  | some x =>
    obtain ⟨j, want⟩ := x
    rw [hg] at hw
    dsimp only at hw ⊢
    split at hw
    · rename_i t ht
      have ht' : (all.toArray[j]?).bind (·.dst) = some t := by rw [List.getElem?_toArray]; exact ht
      have hmem : mem (o.looksAt all.toArray) t = true := by
        rw [mem_iff]; unfold Oper.looksAt; rw [hg]; simp only [ht']; simp
      split at hw
      · rename_i c hc
        cases hb : Nat.blt t C.n with
        | true =>
          rw [hb, cond_true] at hw
          have e : ¬ c = want := by simpa using hw
          exact .inr ⟨t, c, ht', hmem, hc, hb, by rw [if_neg e]; exact ⟨d, hd, hn, rfl⟩⟩
        | false => rw [hb, cond_false] at hw; cases hw
      · rename_i hc; exact .inl ⟨t, d, ht', hmem, hc, hd, hn, rfl⟩
      · cases hw
    · cases hw
def dgo (P : Program) [Env P] (n : Nat) (all : List Oper) : Nat → List Ro → List Oper → Lo → Ga → Nat → Option (List Ro × List Oper × Lo × Ga × Nat)
  | 0, pre, l, L, Γ, m => some (pre, l, L, Γ, m)
  | k + 1, pre, o :: r, L, Γ, m => match wt n all L o.guard with
    | some true => match ey P n L Γ m o with
      | some ⟨⟨some (d, X), []⟩, G, m'⟩ => dgo P n all k (⟨o, ⟨some (d, X), []⟩, G⟩ :: pre) r (upd L d X) Γ m'
      | some ⟨⟨some (d, X), [(g, b)]⟩, G, m'⟩ => dgo P n all k (⟨o, ⟨some (d, X), [(g, b)]⟩, G⟩ :: pre) r (upd L d X) (upd Γ g b) m'
      | some ⟨⟨none, [(g, b)]⟩, G, m'⟩ => dgo P n all k (⟨o, ⟨none, [(g, b)]⟩, G⟩ :: pre) r L (upd Γ g b) m'
      | _ => none
    | some false => match o.dst with | some d => bif Nat.blt d n then dgo P n all k (⟨o, ⟨some (d, .f (.v (.tuple ⟨[]⟩))), []⟩, []⟩ :: pre) r (upd L d (.f (.v (.tuple ⟨[]⟩)))) Γ m else none | none => none
    | none => none
  | _, _, _, _, _, _ => none
theorem dgo_ok {all : List Oper} {R : Act → World → Prop} : ∀ (k : Nat) {pre pre' : List Ro} {l l' : List Oper} {L L' : Lo} {Γ Γ' : Ga} {m m' : Nat}, dgo P C.n all k pre l L Γ m = some (pre', l', L', Γ', m') → DW P C all R pre' l' L' Γ' → DW P C all R pre l L Γ := by
  intro k
  induction k with
  | zero => intro pre pre' l l' L L' Γ Γ' m m' h hx; cases h; exact hx
  | succ k ih =>
    intro pre pre' l l' L L' Γ Γ' m m' h hx
    cases l with
    | nil => cases h
    | cons o r =>
      unfold dgo at h
      split at h
      · rename_i hw
        split at h
        all_goals first
          | (cases h; done)
          | (rename_i hy
             exact DW.cons (ob_true hw fun L1 Γ1 => ey_ok hy (fun z hz t e => by
               have : mem (o.looksAt all.toArray) t = true := by
                 rw [mem_iff]; unfold Oper.looksAt
                 refine List.mem_append.2 (.inl (List.mem_filterMap.2 ⟨z, hz, by rw [e]⟩))
               unfold pin; rw [this]; rfl) (fun g hg => by unfold pin; rw [mem_iff.2 hg]; rfl)) (ih h hx))
      · rename_i hw
        split at h
        · rename_i d hd
          cases hb : Nat.blt d C.n with
          | true => rw [hb, cond_true] at h; exact DW.cons (ob_false hw hd hb) (ih h hx)
          | false => rw [hb, cond_false] at h; cases h
        · cases h
      · cases h
/-- So many plain operations; one by a law of its own; the end. -/
theorem DW.a (k m : Nat) {all l l' : List Oper} {R : Act → World → Prop} {pre pre' : List Ro} (h : dgo P C.n all k pre l L Γ m = some (pre', l', L', Γ', m')) (w : DW P C all R pre' l' L' Γ') : DW P C all R pre l L Γ := dgo_ok k h w
theorem DW.t (k m : Nat) {all l r : List Oper} {R : Act → World → Prop} {pre pre' : List Ro} {o : Oper} {E : Eff} (G : List Nat) (h : dgo P C.n all k pre l L Γ m = some (pre', o :: r, L', Γ', m')) (hw : wt C.n all L' o.guard = some true) (ho : ∀ L1 Γ1, OT P C o (pin L' (o.looksAt all.toArray) L1) (pin Γ' G Γ1) (E.L (pin L' (o.looksAt all.toArray) L1)) (E.G (pin Γ' G Γ1))) (w : DW P C all R (⟨o, E, G⟩ :: pre') r (E.L L') (E.G Γ')) : DW P C all R pre l L Γ := dgo_ok k h (DW.cons (ob_true hw ho) w)
theorem DW.v (k m : Nat) {all l r : List Oper} {R : Act → World → Prop} {pre pre' : List Ro} {o : Oper} {d : Nat} {X : AV} (G : List Nat) (h : dgo P C.n all k pre l L Γ m = some (pre', o :: r, L', Γ', m')) (hw : wt C.n all L' o.guard = some true) (ho : ∀ L1 Γ1, OT P C o (pin L' (o.looksAt all.toArray) L1) (pin Γ' G Γ1) (upd (pin L' (o.looksAt all.toArray) L1) d X) (pin Γ' G Γ1)) (w : DW P C all R (⟨o, ⟨some (d, X), []⟩, G⟩ :: pre') r (upd L' d X) Γ') : DW P C all R pre l L Γ := dgo_ok k h (DW.cons (E := ⟨some (d, X), []⟩) (ob_true hw ho) w)
theorem DW.y (k m : Nat) {all l : List Oper} {R : Act → World → Prop} {pre pre' : List Ro} (h : dgo P C.n all k pre l L Γ m = some (pre', [], L', Γ', m')) (hok : drawOK (pre'.reverse ++ []) = true) (w : TE C R L' Γ') : DW P C all R pre l L Γ := dgo_ok k h (DW.z hok w)
end
/-- The program draws the order of both compilers. -/
class Mix (P : Program) : Prop where
  out : P.follows .mixedOrders = true
section
variable {P : Program} [V : Env P] [M : Mix P] {C : Cx} {Q : Exit → Act → World → Prop} {L L' : Lo} {Γ Γ' : Ga} {p : Pt} {S S' : List Fx} {m' : Nat}
theorem TE.d (k m : Nat) {i : Nat} {l : List Oper} (h : go P C.n 999 k p S L Γ m = some ⟨.c (.region i ⟨l⟩ true), S', L', Γ', m'⟩) (w : DW P C l (Pt.wp P Q S' (.e .normal)) [] l L' Γ') : TE C (p.wp P Q S) L Γ := go_ok 999 h (by
  obtain ⟨rs, h1, h2, h3, h4⟩ := w
  exact TC.draw M.out rs h1 h2 h3 h4)
end
end Go.Proofs.YtdjcclcejmeheaaGreat.Pl
/-
  A logic of walks: the laws of single operations in short: all that is looked up stands in one equation.
-/
namespace Go.Proofs.YtdjcclcejmeheaaGreat.Pl
set_option linter.unusedVariables false
set_option linter.unusedSimpArgs false
set_option linter.unusedSectionVars false
open Go.RowKit
section
variable {P : Program} [V : Env P] {C : Cx} {L : Lo} {Γ : Ga} {d : Nat} {ty : TypeId} {pos : String} {af : Array Edge} {gd : Option (Nat × Bool)}
theorem pr2 {α β : Type} {a c : α} {b d : β} (h : (a, b) = (c, d)) : a = c ∧ b = d := by cases h; exact ⟨rfl, rfl⟩
theorem cf_of {f : FuncId} (h : mem V.cf f = true) : cfn P f = true := List.all_eq_true.1 V.hcf f (mem_iff.1 h)
/-- Of the rows among what is handed over: the cells, and how many there must be. -/
def owl (L : Lo) (Γ : Ga) : List Operand → List (Nat × Nat)
  | [] => []
  | x :: r => match ev L x with
    | some (.ow g n sz) => match (Γ g).bind AO.cells with | some cs => (cs.length, n * sz) :: owl L Γ r | none => owl L Γ r
    | _ => owl L Γ r
theorem owl_ok : ∀ {xs : List Operand}, (owl L Γ xs).map Prod.fst = (owl L Γ xs).map Prod.snd → okR L Γ xs
  | [], _ => trivial
  | x :: r, h => by
    unfold okR
    unfold owl at h
    split at h
    · rename_i g n sz hx
      rw [hx]
      split at h
      · rename_i cs hg
        rw [List.map_cons, List.map_cons, List.cons.injEq] at h
        refine ⟨fun cs' h' => ?_, owl_ok h.2⟩
        have : cs' = cs := by rw [hg] at h'; injection h' with e; exact e.symm
        rw [this]; exact h.1
      · rename_i hg
        exact ⟨fun cs' h' => by (rw [hg] at h'; cases h'), owl_ok h⟩
    · rename_i hx
      refine ⟨?_, owl_ok h⟩
      cases e : ev L x with
      | none => trivial
      | some A => cases A <;> first | trivial | exact absurd e (hx _ _ _)
theorem okA_c {g n sz : Nat} {cs : List DV} (hg : (Γ g).bind AO.cells = some cs) (hl : cs.length = n * sz) : okr Γ (.ow g n sz) := fun cs' h => by rw [hg] at h; cases h; exact hl
theorem OT.cf {f : FuncId} {xs : List Operand} {at_ : Array TypeId} {Xs : List DV} {Y : DV} (hc : PF P f Xs Y) (h : (Nat.blt d C.n, mem V.cf f, evR L Γ xs, (owl L Γ xs).map Prod.fst) = (true, true, some Xs, (owl L Γ xs).map Prod.snd)) :
    OT P C ⟨some d, .call { callee := .value (.func f), args := xs.toArray, argTypes := at_ }, ty, pos, af, gd⟩ L Γ (upd L d (.f Y)) Γ := by
  obtain ⟨h1, h⟩ := pr2 h; obtain ⟨h2, h⟩ := pr2 h; obtain ⟨h3, h4⟩ := pr2 h
  exact OT.callf h1 (cf_of h2) h3 (owl_ok h4) hc
theorem OT.cc {f : FuncId} {xs : List Operand} {at_ : Array TypeId} {Xs : List DV} {Y : DV} (hc : PC P f Xs Y) (h : (Nat.blt d C.n, mem V.cf f, evD L xs) = (true, true, some Xs)) :
    OT P C ⟨some d, .call { callee := .value (.func f), args := xs.toArray, argTypes := at_ }, ty, pos, af, gd⟩ L Γ (upd L d (.d Y)) Γ := by
  obtain ⟨h1, h⟩ := pr2 h; obtain ⟨h2, h3⟩ := pr2 h
  exact OT.callc h1 (cf_of h2) h3 hc
theorem OT.co {f : FuncId} {xs : List Operand} {at_ : Array TypeId} {Xs : List DV} {e sz n : Nat} {cs : List DV} (g : Nat) (hc : PO P f Xs e sz n cs) (h : (Nat.blt d C.n, mem V.cf f, Γ g, evR L Γ xs, (owl L Γ xs).map Prod.fst) = (true, true, none, some Xs, (owl L Γ xs).map Prod.snd)) :
    OT P C ⟨some d, .call { callee := .value (.func f), args := xs.toArray, argTypes := at_ }, ty, pos, af, gd⟩ L Γ (upd L d (.ow g n sz)) (upd Γ g (.row e sz cs)) := by
  obtain ⟨h1, h⟩ := pr2 h; obtain ⟨h2, h⟩ := pr2 h; obtain ⟨h0, h⟩ := pr2 h; obtain ⟨h3, h4⟩ := pr2 h
  exact OT.callo g h1 h0 (cf_of h2) h3 (owl_ok h4) hc
def isD : AO → Bool
  | .dead => true
  | _ => false
theorem isD_no {o : AO} (h : isD o = false) : o ≠ .dead := by rintro rfl; cases h
theorem OT.cm {f : FuncId} {xs : List Operand} {at_ : Array TypeId} {As : List AV} {o o1 : AO} {cs : List DV} {Y : AV} (g : Nat) (o' : AO) (h : (Nat.blt d C.n, mem V.cf f, Γ g, o.cells, evM L g xs, o'.lend, o'.key, isD o') = (true, true, some o, some cs, some As, o1, o.key, false)) (hc : PM P f As o.lend o1 Y) (hY : plainB Y = true) :
    OT P C ⟨some d, .call { callee := .value (.func f), args := xs.toArray, argTypes := at_ }, ty, pos, af, gd⟩ L Γ (upd L d (backA g Y)) (upd Γ g o') := by
  obtain ⟨h1, h⟩ := pr2 h; obtain ⟨h2, h⟩ := pr2 h; obtain ⟨h3, h⟩ := pr2 h; obtain ⟨h4, h⟩ := pr2 h; obtain ⟨h5, h⟩ := pr2 h; obtain ⟨h6, h⟩ := pr2 h; obtain ⟨h7, h8⟩ := pr2 h
  exact OT.callm g h1 (cf_of h2) h3 h4 h5 h6 (isD_no h8) h7 hY hc
theorem OT.lm {t n : Nat} {x : Operand} {A : AV} {cs : List DV} (ds : List DV) (h : (Nat.blt d C.n, ev L x, A.dv, ls V.ty t, cs.take n, ds.length) = (true, some A, some (.el cs), some (some n), ds, n)) :
    OT P C ⟨some d, .load t x, ty, pos, af, gd⟩ L Γ (upd L d (A.re (.ag ds))) Γ := by
  obtain ⟨h1, h⟩ := pr2 h; obtain ⟨h2, h⟩ := pr2 h; obtain ⟨h3, h⟩ := pr2 h; obtain ⟨h4, h⟩ := pr2 h; obtain ⟨h5, h6⟩ := pr2 h
  exact OT.ldem h1 h2 h3 h5 h6 (Okl.get V.hty h4)
theorem OT.lp {t g off n : Nat} {x : Operand} {o : AO} {cs : List DV} (ds : List DV) (h : (Nat.blt d C.n, ev L x, Γ g, o.cells, ls V.ty t, (cs.drop off).take n, ds.length) = (true, some (.ptr g off), some o, some cs, some (some n), ds, n)) :
    OT P C ⟨some d, .load t x, ty, pos, af, gd⟩ L Γ (upd L d (.d (.ag ds))) Γ := by
  obtain ⟨h1, h⟩ := pr2 h; obtain ⟨h2, h⟩ := pr2 h; obtain ⟨h3, h⟩ := pr2 h; obtain ⟨h4, h⟩ := pr2 h; obtain ⟨h5, h⟩ := pr2 h; obtain ⟨h6, h7⟩ := pr2 h
  exact OT.ldpm h1 h2 h3 h4 h6 h7 (Okl.get V.hty h5)
theorem OT.bv {op : BinOp} {xt yt : TypeId} {x y : Operand} {u1 u2 u : Value} (u' : Value) (h : (Nat.blt d C.n, evv L x, evv L y, bo op u1 u2) = (true, some u1, some u2, some u)) (hu : u = u') :
    OT P C ⟨some d, .binOp op xt x y yt, ty, pos, af, gd⟩ L Γ (upd L d (.f (.v u'))) Γ := by
  obtain ⟨h1, h⟩ := pr2 h; obtain ⟨h2, h⟩ := pr2 h; obtain ⟨h3, h4⟩ := pr2 h
  exact OT.binv u' h1 h2 h3 h4 hu
theorem OT.bd {t : TypeId} {ps : List (Nat × Operand)} {Xs : List (Nat × DV)} {zs : List Value} {pl : List (Nat × Nat)} (ds : List DV) (h : (Nat.blt d C.n, evP L ps, ls V.sp t, zs.all Value.oneCell', bldD pl (zs.map .v) Xs) = (true, some Xs, some (zs, pl), true, some ds)) :
    OT P C ⟨some d, .build t ps.toArray, ty, pos, af, gd⟩ L Γ (upd L d (.d (.ag ds))) Γ := by
  obtain ⟨h1, h⟩ := pr2 h; obtain ⟨h2, h⟩ := pr2 h; obtain ⟨h3, h⟩ := pr2 h; obtain ⟨h4, h5⟩ := pr2 h
  exact OT.build h1 h2 (Okl.get V.hsp h3) h4 h5
theorem OT.ix {α : Type} {enc : α → List DV} {sz : Nat} {xs : List α} {t e : TypeId} {x y : Operand} {A : AV} {k : IntKind} {i : Int} (v : α) (h : (Nat.blt d C.n, ev L x, A.dv, evv L y, ls V.el t) = (true, some A, some (slT enc sz xs), some (.int k i), some (e, sz))) (he : ∀ z, (enc z).length = sz) (h0 : 0 ≤ i) (hv : xs[i.toNat]? = some v) :
    OT P C ⟨some d, .indexAddr t x y, ty, pos, af, gd⟩ L Γ (upd L d (A.re (.el (enc v)))) Γ := by
  obtain ⟨h1, h⟩ := pr2 h; obtain ⟨h2, h⟩ := pr2 h; obtain ⟨h3, h⟩ := pr2 h; obtain ⟨h4, h5⟩ := pr2 h
  exact OT.idx v h1 h2 h3 h4 (Okl.get V.hel h5) he h0 hv
theorem OT.ixo {t e n sz g : Nat} {x y : Operand} {k : IntKind} {i : Int} {o : AO} {cs : List DV} (h : (Nat.blt d C.n, ev L x, evv L y, Γ g, o.cells, ls V.el t) = (true, some (.ow g n sz), some (.int k i), some o, some cs, some (e, sz))) (h0 : 0 ≤ i) (h1 : i < n) :
    OT P C ⟨some d, .indexAddr t x y, ty, pos, af, gd⟩ L Γ (upd L d (.ptr g (i.toNat * sz))) Γ := by
  obtain ⟨k1, h⟩ := pr2 h; obtain ⟨k2, h⟩ := pr2 h; obtain ⟨k3, h⟩ := pr2 h; obtain ⟨k4, h⟩ := pr2 h; obtain ⟨k5, k6⟩ := pr2 h
  exact OT.idxo k1 k2 k3 k4 k5 (Okl.get V.hel k6) h0 h1
theorem OT.cv {src dst : TypeId} {x : Operand} {k k' : IntKind} {n : Int} (m : Int) (h : (Nat.blt d C.n, evv L x, ls V.uk src, ls V.uk dst) = (true, some (.int k n), some k, some k')) (hm : k'.wrap n = m) :
    OT P C ⟨some d, .convert src dst x, ty, pos, af, gd⟩ L Γ (upd L d (.f (.v (.int k' m)))) Γ := by
  obtain ⟨h1, h⟩ := pr2 h; obtain ⟨h2, h⟩ := pr2 h; obtain ⟨h3, h4⟩ := pr2 h
  exact OT.conviv m h1 h2 (Okl.get V.huk h3) (Okl.get V.huk h4) hm
theorem OT.ba {t e sz by_ len : Nat} {ps : List (Nat × Operand)} {Xs : List (Nat × DV)} {zs : List Value} {ds : List DV} (g : Nat) (h : (Nat.blt d C.n, Γ g, evP L ps, ls V.ap t, ls V.zc e, zs.all Value.oneCell', Nat.blt 0 (len * sz) && Nat.ble (len * sz) 16777216, bldD (plN sz 0 len) ((zrow zs len).map .v) Xs) = (true, none, some Xs, some (e, sz, by_), some zs, true, true, some ds)) :
    OT P C ⟨some d, .buildSlice t len ps.toArray, ty, pos, af, gd⟩ L Γ (upd L d (.ow g len sz)) (upd Γ g (.row e sz ds)) := by
  obtain ⟨h1, h⟩ := pr2 h; obtain ⟨h2, h⟩ := pr2 h; obtain ⟨h3, h⟩ := pr2 h; obtain ⟨h4, h⟩ := pr2 h; obtain ⟨h5, h⟩ := pr2 h; obtain ⟨h6, h⟩ := pr2 h; obtain ⟨h7, h8⟩ := pr2 h
  exact OT.buildsl g h1 h2 h3 (Okl.get V.hap h4) (Okl.get V.hzc h5) h6 h7 h8
theorem OT.bb {t e sz by_ len : Nat} {ps : List (Nat × Operand)} {Xs : List (Nat × DV)} {zs : List Value} (ds : List DV) (g : Nat) (h : (Nat.blt d C.n, Γ g, evP L ps, ls V.ap t, ls V.zc e, zs.all Value.oneCell', Nat.blt 0 (len * sz) && Nat.ble (len * sz) 16777216, bldD (plN sz 0 len) ((zrow zs len).map .v) Xs) = (true, none, some Xs, some (e, sz, by_), some zs, true, true, some ds)) :
    OT P C ⟨some d, .buildSlice t len ps.toArray, ty, pos, af, gd⟩ L Γ (upd L d (.ow g len sz)) (upd Γ g (.row e sz ds)) := OT.ba g h
theorem OT.ap {t e sz by_ g n m : Nat} {s x : Operand} {cs ds : List DV} {A : AV} (g' : Nat) (h : (Nat.blt d C.n, ev L s, Γ g, Γ g', ls V.ap t, ev L x, rdv Γ A, (owl L Γ [x]).map Prod.fst) = (true, some (.ow g n sz), some (.row e sz cs), none, some (e, sz, by_), some A, some (.sl sz m ds), (owl L Γ [x]).map Prod.snd)) (hl : cs.length = n * sz) (h1 : ds.all DV.one = true) (hbig : (n + m) * by_ ≤ 140737488355328) (hmax : n + m ≤ 1099511627776) :
    OT P C ⟨some d, .call { callee := .builtin .append, args := #[s, x], argTypes := #[t, t] }, ty, pos, af, gd⟩ L Γ (upd L d (.ow g' (n + m) sz)) (upd (upd Γ g .dead) g' (.row e sz (cs ++ ds))) := by
  obtain ⟨k1, h⟩ := pr2 h; obtain ⟨k2, h⟩ := pr2 h; obtain ⟨k3, h⟩ := pr2 h; obtain ⟨k4, h⟩ := pr2 h; obtain ⟨k5, h⟩ := pr2 h; obtain ⟨k6, h⟩ := pr2 h; obtain ⟨k7, k8⟩ := pr2 h
  refine OT.append g' k1 k2 k3 hl k4 (Okl.get V.hap k5) k6 k7 ?_ h1 hbig hmax
  have := owl_ok k8
  unfold okR at this
  rw [k6] at this
  cases A <;> first | exact this.1 | trivial
theorem OT.convbd {src dst e : TypeId} {x : Operand} {l : List UInt8} (hn : Nat.blt d C.n = true) (hx : evd L x = some (slT bdv 1 l)) (hs : u8s P src = some e) (hd : uks P dst = true) :
    OT P C ⟨some d, .convert src dst x, ty, pos, af, gd⟩ L Γ (upd L d (.f (.v (.string ⟨⟨l⟩⟩)))) Γ := by
  unfold evd at hx
  cases hA : ev L x with
  | none => simp [hA] at hx
  | some A =>
    rw [hA, Option.bind_some] at hx
    refine .convbs (A := A) hn hA ?_ ?_ hs hd
    · cases A <;> simp [AV.dv, rdv] at hx ⊢ <;> exact hx
    · cases A <;> simp [AV.dv, okr] at hx ⊢
end
end Go.Proofs.YtdjcclcejmeheaaGreat.Pl

