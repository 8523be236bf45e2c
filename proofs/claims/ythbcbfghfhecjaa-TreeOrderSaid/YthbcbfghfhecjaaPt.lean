/-
  A logic of walks: literals of slices without elements.
-/
import Derived.Test.YthbcbfghfhecjaaPs
namespace Go.Proofs.Ythbcbfghfhecjaa.Pl
set_option linter.unusedVariables false
set_option linter.unusedSimpArgs false
open Go.RowKit

section
variable {P : Program} {C : Cx} {L : Lo} {Γ : Ga} {d : Nat} {ty : TypeId} {pos : String} {af : Array Edge} {gd : Option (Nat × Bool)}
/-- []T{} -/
theorem OT.buildsl0 {t e sz by_ : Nat} (g : Nat) (hn : Nat.blt d C.n = true) (hg : Γ g = none) (ht : apt P t = some (e, sz, by_)) :
    OT P C ⟨some d, .buildSlice t 0 #[], ty, pos, af, gd⟩ L Γ (upd L d (.ow g 0 sz)) (upd Γ g (.row e sz [])) :=
  OT.turns fun ρ a w h => by
    obtain ⟨hu, i, z, hi, hzi, hsi, hby, hzs, h0⟩ := apt_parts ht
    have hrun : (Instr.buildSlice t 0 #[]).run P w = .ok (.slice (some ⟨w.heap.size, 0, none⟩) 0 0) (w.alloc (.cells #[] e)) := by
      simp [Instr.buildSlice, run_underlying hu, sizeOf, typeInfo, hi, hsi, Instr.fill, newRow]
      exact congrArg (fun x => w.alloc (.cells x e)) (Array.eq_empty_of_size_eq_zero (by simp))
    refine ⟨.slice (some ⟨w.heap.size, 0, none⟩) 0 0, w.alloc (.cells #[] e), by simp [execOp, hrun], ?_⟩
    obtain ⟨ρ', hr, hρ, hk⟩ := h.fresh (g := g) (b := w.heap.size) (o' := .row e sz []) hg (grown_alloc w (.cells #[] e)) ⟨Nat.le_refl _, by simp⟩ (by simp) rfl
      (fun K hK _ => .inr ⟨w.heap.size, [], 0, rfl, heap_alloc_new _ _, by simp, by simp [maxLen], by simp, by simp [repL], by simp⟩)
    refine ⟨ρ', hr.put (by simpa using hn) (fun ob hob => ?_) (fun g' hg' => ?_)⟩
    · rw [hρ] at hob; cases hob
      refine .inr ⟨_, 0, rfl, rfl, Nat.le_refl _, by simp [maxLen], ?_⟩
      unfold bsz; rw [heap_alloc_new]; simp
    · cases hg'; rw [upd_same]; simp
end
theorem TC.frz {P : Program} {C : Cx} {L : Lo} {Γ : Ga} {c : Code} {Q : Exit → Act → World → Prop} (t : Nat) (Y : DV) {g n sz e : Nat} {cs : List DV} (ht : L t = some (.ow g n sz)) (hg : Γ g = some (.row e sz cs)) (hl : cs.length = n * sz) (he : DV.sl sz n cs = Y) (k : TC P C c Q (upd L t (.d Y)) (upd Γ g .dead)) : TC P C c Q L Γ := by
  subst he
  exact fun a w h => k a w (reps_freeze t ht hg hl h)
theorem TC.obj {P : Program} {C : Cx} {L : Lo} {Γ : Ga} {c : Code} {Q : Exit → Act → World → Prop} (g : Nat) {o : AO} (o' : AO) (hg : Γ g = some o) (he : o = o') (k : TC P C c Q L (upd Γ g o')) : TC P C c Q L Γ := by
  subst he
  have : upd Γ g o = Γ := by
    funext s; by_cases e : s = g
    · subst e; rw [upd_same, hg]
    · rw [upd_other _ _ _ _ e]
  rw [this] at k; exact k
/-- Less is said of a value. -/
def Sub (X Y : DV) : Prop := ∀ K w u, X.rep K w u → Y.rep K w u
def SubL (Xs Ys : List DV) : Prop := ∀ K w us, repL K w Xs us → repL K w Ys us
theorem Sub.refl (X : DV) : Sub X X := fun _ _ _ h => h
theorem nil_sub {α : Type} (enc : α → List DV) (sz : Nat) : Sub (.v (.slice none 0 0)) (slT enc sz []) := fun K w u h => by
  unfold DV.rep at h; subst h
  unfold slT DV.rep; exact .inl ⟨rfl, rfl, rfl⟩
theorem subL_nil : SubL [] [] := fun _ _ _ h => h
theorem subL_cons {X Y : DV} {Xs Ys : List DV} (h : Sub X Y) (k : SubL Xs Ys) : SubL (X :: Xs) (Y :: Ys) := fun K w us hr => by
  unfold repL at hr ⊢
  obtain ⟨u, t, rfl, h1, h2⟩ := hr
  exact ⟨u, t, rfl, h _ _ _ h1, k _ _ _ h2⟩
theorem sub_ag {Xs Ys : List DV} (k : SubL Xs Ys) : Sub (.ag Xs) (.ag Ys) := fun K w u hr => by
  unfold DV.rep at hr ⊢
  obtain ⟨us, e, h⟩ := hr
  exact ⟨us, e, k _ _ _ h⟩
theorem reps_sub {C : Cx} {L : Lo} {Γ : Ga} {a : Act} {w : World} (t : Nat) (Y : DV) {A : AV} {X : DV} (ht : L t = some A) (hA : A.dv = some X) (h : Sub X Y) (hr : Reps C L Γ a w) : Reps C (upd L t (A.re Y)) Γ a w := by
  obtain ⟨ρ, hr⟩ := hr
  refine ⟨ρ, hr.reslot ?_ (fun g hg => absurd hg (AV.re_id A Y g))⟩
  exact AV.re_rep (hr.slot t A ht) hA (fun J hJ => h _ _ _ hJ)
theorem TL.sub {P : Program} {C : Cx} {L : Lo} {Γ : Ga} {ops : Array Oper} {Q : Exit → Act → World → Prop} {rest : List Oper} (t : Nat) (Y : DV) {A : AV} {X : DV} (ht : L t = some A) (hA : A.dv = some X) (h : Sub X Y) (k : TL P C ops Q rest (upd L t (A.re Y)) Γ) : TL P C ops Q rest L Γ := fun a w hr => k a w (reps_sub t Y ht hA h hr)
theorem TE.sub {C : Cx} {L : Lo} {Γ : Ga} {R : Act → World → Prop} (t : Nat) (Y : DV) {A : AV} {X : DV} (ht : L t = some A) (hA : A.dv = some X) (h : Sub X Y) (k : TE C R (upd L t (A.re Y)) Γ) : TE C R L Γ := fun a w hr => k a w (reps_sub t Y ht hA h hr)
end Go.Proofs.Ythbcbfghfhecjaa.Pl
