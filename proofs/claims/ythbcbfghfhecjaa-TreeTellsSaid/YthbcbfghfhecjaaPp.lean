/-
  A logic of walks: remainders, bits, shifts, equal truths.
-/
import Derived.Test.YthbcbfghfhecjaaPo

namespace Go.Proofs.Ythbcbfghfhecjaa.Pl
set_option linter.unusedVariables false
set_option linter.unusedSimpArgs false
open Go.RowKit

section
variable {P : Program} {C : Cx} {L : Lo} {Γ : Ga} {d : Nat} {ty : TypeId} {pos : String} {af : Array Edge} {gd : Option (Nat × Bool)}
theorem OT.rem {xt yt : TypeId} {x y : Operand} {k : IntKind} {a b : Int} (m : Int) (hn : Nat.blt d C.n = true) (hx : evv L x = some (.int k a)) (hy : evv L y = some (.int k b)) (hb : b ≠ 0) (hm : a.tmod b = m) :
    OT P C ⟨some d, .binOp .rem xt x y yt, ty, pos, af, gd⟩ L Γ (upd L d (.f (.v (.int k m)))) Γ :=
  OT.value hn (fun g hg => by simp [AV.id] at hg) fun ρ a w hr => ⟨.int k m, by simp [execOp, evv_eval hr hx, evv_eval hr hy, eqGuard, binOp, Op.intDiv, hb, hm], rfl⟩
theorem OT.quo {xt yt : TypeId} {x y : Operand} {k : IntKind} {a b : Int} (m : Int) (hn : Nat.blt d C.n = true) (hx : evv L x = some (.int k a)) (hy : evv L y = some (.int k b)) (hb : b ≠ 0) (hm : k.wrap (a.tdiv b) = m) :
    OT P C ⟨some d, .binOp .quo xt x y yt, ty, pos, af, gd⟩ L Γ (upd L d (.f (.v (.int k m)))) Γ :=
  OT.value hn (fun g hg => by simp [AV.id] at hg) fun ρ a w hr => ⟨.int k m, by simp [execOp, evv_eval hr hx, evv_eval hr hy, eqGuard, binOp, Op.intDiv, hb, hm], rfl⟩
def bitF : BinOp → (k : IntKind) → Int → Int → Option Int
  | .and, k, a, b => some (k.wrap (BitVec.ofInt k.bits a &&& BitVec.ofInt k.bits b).toNat)
  | .or, k, a, b => some (k.wrap (BitVec.ofInt k.bits a ||| BitVec.ofInt k.bits b).toNat)
  | .xor, k, a, b => some (k.wrap (BitVec.ofInt k.bits a ^^^ BitVec.ofInt k.bits b).toNat)
  | .andNot, k, a, b => some (k.wrap (BitVec.ofInt k.bits a &&& ~~~BitVec.ofInt k.bits b).toNat)
  | _, _, _, _ => none
theorem OT.bits {op : BinOp} {xt yt : TypeId} {x y : Operand} {k : IntKind} {a b r : Int} (m : Int) (hn : Nat.blt d C.n = true) (hx : evv L x = some (.int k a)) (hy : evv L y = some (.int k b)) (hr : bitF op k a b = some r) (hm : r = m) :
    OT P C ⟨some d, .binOp op xt x y yt, ty, pos, af, gd⟩ L Γ (upd L d (.f (.v (.int k m)))) Γ := by
  subst hm
  refine OT.value hn (fun g hg => by simp [AV.id] at hg) fun ρ a w h => ⟨.int k r, ?_, rfl⟩
  unfold bitF at hr
  split at hr <;> first | (simp only [Option.some.injEq] at hr; subst hr; simp [execOp, evv_eval h hx, evv_eval h hy, eqGuard, binOp, Op.intBits]; done) | cases hr
theorem OT.shl {xt yt : TypeId} {x y : Operand} {k k' : IntKind} {n c : Int} (v : Int) (hn : Nat.blt d C.n = true) (hx : evv L x = some (.int k n)) (hy : evv L y = some (.int k' c)) (hc : 0 ≤ c) (hv : k.wrap (n * 2 ^ (min c.toNat k.bits)) = v) :
    OT P C ⟨some d, .binOp .shl xt x y yt, ty, pos, af, gd⟩ L Γ (upd L d (.f (.v (.int k v)))) Γ :=
  OT.value hn (fun g hg => by simp [AV.id] at hg) fun ρ a w hr => ⟨.int k v, by
    have h1 : ¬ c < 0 := by omega
    simp [execOp, evv_eval hr hx, evv_eval hr hy, eqGuard, binOp, Op.shift, h1, hv], rfl⟩
/-- Whether a type is the truths'. -/
def ubl (P : Program) (t : TypeId) : Bool := match P.underlying t with
  | some .bool => true
  | _ => false
theorem equal_bool {t : TypeId} (h : ubl P t = true) (x y : Bool) (w : World) : (Op.equal t (.bool x) (.bool y)).run P w = .ok (x == y) w := by
  unfold ubl at h
  split at h
  · rename_i hu
    have : ∀ n, (Op.equalIn (n + 1) t (.bool x) (.bool y)).run P w = .ok (x == y) w := fun n => by simp [Op.equalIn, run_underlying hu]
    exact this 9999
  · cases h
theorem OT.eqb {xt yt : TypeId} {x y : Operand} {p q : Bool} (r : Bool) (hn : Nat.blt d C.n = true) (hx : evv L x = some (.bool p)) (hy : evv L y = some (.bool q)) (ht : ubl P xt = true) (hr : (p == q) = r) :
    OT P C ⟨some d, .binOp .eql xt x y yt, ty, pos, af, gd⟩ L Γ (upd L d (.f (.v (.bool r)))) Γ :=
  OT.value hn (fun g hg => by simp [AV.id] at hg) fun ρ a w h => ⟨.bool r, by
    simp [execOp, evv_eval h hx, evv_eval h hy, eqGuard, binOp, equal_bool ht, hr], rfl⟩
theorem OT.neb {xt yt : TypeId} {x y : Operand} {p q : Bool} (r : Bool) (hn : Nat.blt d C.n = true) (hx : evv L x = some (.bool p)) (hy : evv L y = some (.bool q)) (ht : ubl P xt = true) (hr : (!(p == q)) = r) :
    OT P C ⟨some d, .binOp .neq xt x y yt, ty, pos, af, gd⟩ L Γ (upd L d (.f (.v (.bool r)))) Γ :=
  OT.value hn (fun g hg => by simp [AV.id] at hg) fun ρ a w h => ⟨.bool r, by
    simp [execOp, evv_eval h hx, evv_eval h hy, eqGuard, binOp, equal_bool ht, hr], rfl⟩
end
theorem flat_one {α : Type} {enc : α → List DV} (h : ∀ x, (enc x).all DV.one = true) (xs : List α) : (xs.flatMap enc).all DV.one = true := by
  induction xs with
  | nil => rfl
  | cons x r ih => rw [List.flatMap_cons, List.all_append, h, ih]; rfl
/-- A row of one's own is let go, and told in other words. -/
theorem TE.frz {C : Cx} {L : Lo} {Γ : Ga} {R : Act → World → Prop} (t : Nat) (Y : DV) {g n sz e : Nat} {cs : List DV} (ht : L t = some (.ow g n sz)) (hg : Γ g = some (.row e sz cs)) (hl : cs.length = n * sz) (he : DV.sl sz n cs = Y) (k : TE C R (upd L t (.d Y)) (upd Γ g .dead)) : TE C R L Γ := by
  subst he; exact TE.freeze t ht hg hl k
theorem TL.frz {P : Program} {C : Cx} {L : Lo} {Γ : Ga} {ops : Array Oper} {Q : Exit → Act → World → Prop} {rest : List Oper} (t : Nat) (Y : DV) {g n sz e : Nat} {cs : List DV} (ht : L t = some (.ow g n sz)) (hg : Γ g = some (.row e sz cs)) (hl : cs.length = n * sz) (he : DV.sl sz n cs = Y) (k : TL P C ops Q rest (upd L t (.d Y)) (upd Γ g .dead)) : TL P C ops Q rest L Γ := by
  subst he; exact TL.freeze t ht hg hl k
theorem RepsAt.reslot {C : Cx} {ρ : Rho} {L : Lo} {Γ : Ga} {a : Act} {w : World} (h : RepsAt C ρ L Γ a w) {d : Nat} {X : AV} (hx : X.rep ρ (KK C.K0 ρ Γ) C.w0.heap.size w (a.tmps.getD d undef)) (hi : ∀ g, X.id = some g → Γ g ≠ none) :
    RepsAt C ρ (upd L d X) Γ a w := by
  refine ⟨h.df, h.sz, h.k0, h.fr, h.dom, fun t Y g ht hg => ?_, h.lt, h.inj, h.new, h.len, h.obj, fun t Y ht => ?_⟩
  · rcases upd_some ht with ⟨rfl, rfl⟩ | ⟨_, ht⟩
    · exact hi g hg
    · exact h.ment t Y g ht hg
  rcases upd_some ht with ⟨rfl, rfl⟩ | ⟨hne, ht⟩
  · exact hx
  · exact h.slot t Y ht
/-- Nothing, as a row of one's own. -/
theorem reps_own0 {C : Cx} {L : Lo} {Γ : Ga} {a : Act} {w : World} (t g e sz : Nat) (ht : evv L (.tmp t) = some (.slice none 0 0)) (hg : Γ g = none) (h : Reps C L Γ a w) : Reps C (upd L t (.ow g 0 sz)) (upd Γ g (.row e sz [])) a w := by
  obtain ⟨ρ, h⟩ := h
  have hev : a.tmps.getD t undef = .slice none 0 0 := evv_eval h ht
  have r2 : w.ownsRow w.heap.size e sz (.slice none 0 0) 0 [] := World.ownsRow_nil w _ _ _
  have hones : ∀ x ∈ ([] : List Value), x.oneCell' = true := by simp
  have hrl : ∀ K, repL K w [] [] := fun K => by simp [repL]
  obtain ⟨ρ', hr, hρ', hk⟩ := h.gain (g := g) (ob := none) (ob' := (Value.slice none 0 0).ownBlock) (o' := .row e sz []) (w' := w) (Γ1 := Γ) hg (fun _ _ h _ => h) (fun _ h => h) (fun b g' e => by cases e) (fun b e => by cases e) ⟨rfl, rfl, rfl, Nat.le_refl _, fun _ _ _ => rfl⟩
    (fun b eb => ⟨.inr (World.ownsRow.lt r2 b eb).1, (World.ownsRow.lt r2 b eb).2⟩) (by simp) rfl (fun K _ _ => (owns_row r2 (hrl K) hones).1)
  refine ⟨ρ', hr.reslot (fun ob' hob => ?_) (fun g1 hg1 => ?_)⟩
  · rw [hρ'] at hob; cases hob
    rw [hev]
    exact (owns_row r2 (hrl noK) hones).2
  · cases hg1; rw [upd_same]; simp
theorem TE.own0 {C : Cx} {L : Lo} {Γ : Ga} {R : Act → World → Prop} (t g e sz : Nat) (ht : evv L (.tmp t) = some (.slice none 0 0)) (hg : Γ g = none) (k : TE C R (upd L t (.ow g 0 sz)) (upd Γ g (.row e sz []))) : TE C R L Γ := fun a w h => k a w (reps_own0 t g e sz ht hg h)
theorem TC.own0 {P : Program} {C : Cx} {L : Lo} {Γ : Ga} {c : Code} {Q : Exit → Act → World → Prop} (t g e sz : Nat) (ht : evv L (.tmp t) = some (.slice none 0 0)) (hg : Γ g = none) (k : TC P C c Q (upd L t (.ow g 0 sz)) (upd Γ g (.row e sz []))) : TC P C c Q L Γ := fun a w h => k a w (reps_own0 t g e sz ht hg h)
/-- A value in other words. -/
theorem TE.set {C : Cx} {L : Lo} {Γ : Ga} {R : Act → World → Prop} (t : Nat) {X : AV} (Y : AV) (ht : L t = some X) (h : X = Y) (k : TE C R (upd L t Y) Γ) : TE C R L Γ := fun a w ⟨ρ, hr⟩ => k a w ⟨ρ, by
  subst h
  have : upd L t X = L := by funext s; by_cases e : s = t; · subst e; rw [upd_same, ht]
                             · rw [upd_other _ _ _ _ e]
  rw [this]; exact hr⟩
/-! A field of a struct at hand. -/
def isAgg' : TypeDesc → Bool
  | .struct _ | .array _ _ => true
  | _ => false
def fld (P : Program) (t i : Nat) : Option (Nat × Option Nat) := match P.underlying t with
  | some (.struct fs) => match fs[i]? with
    | some f => (tyk P f.type).map fun k => (f.offset, k)
    | none => none
  | _ => none
theorem part_run {P : Program} {w : World} {t off : Nat} {us : List Value} {k : Option Nat} (h : tyk P t = some k) :
    (∀ u, k = none → us[off]? = some u → (part t us.toArray off).run P w = .ok u w) ∧ (∀ n, k = some n → (part t us.toArray off).run P w = .ok (.agg ((us.drop off).take n).toArray) w) := by
  unfold tyk at h
  cases hu : P.underlying t with
  | none => simp [hu] at h
  | some d =>
    have hd := run_underlying (w := w) hu
    have agg : ∀ i, P.info? t = some i → isAgg' d = true → (part t us.toArray off).run P w = .ok (.agg ((us.drop off).take i.size).toArray) w := fun i hi ha => by
      have hs : (sizeOf t).run P w = .ok i.size w := by rw [run_sizeOf w hi]; congr 1; unfold Program.cellsOf; rw [hi]; rfl
      cases d <;> simp [isAgg'] at ha <;> (simp [part, isAgg, hd, hs, List.extract])
    have one : isAgg' d = false → ∀ u, us[off]? = some u → (part t us.toArray off).run P w = .ok u w := fun ha u hu' => by
      cases d <;> simp [isAgg'] at ha <;> simp [part, isAgg, hd, hu']
    refine ⟨fun u hk hu' => ?_, fun n hk => ?_⟩
    · subst hk
      refine one ?_ u hu'
      rw [hu] at h
      cases d <;> first | rfl | (simp at h; done)
    · subst hk
      cases hi : P.info? t with
      | none => rw [hu] at h; cases d <;> simp [hi] at h
      | some i =>
        rw [hu] at h
        have : isAgg' d = true ∧ i.size = n := by cases d <;> simp [hi] at h <;> exact ⟨rfl, h⟩
        rw [← this.2]; exact agg i hi this.1
section
variable {P : Program} {C : Cx} {L : Lo} {Γ : Ga} {d : Nat} {ty : TypeId} {pos : String} {af : Array Edge} {gd : Option (Nat × Bool)}
theorem field_run {t i off : Nat} {k : Option Nat} (h : fld P t i = some (off, k)) : ∃ ft, tyk P ft = some k ∧ ∀ (us : List Value) w, (Instr.field t (.agg us.toArray) i).run P w = (part ft us.toArray off).run P w := by
  unfold fld at h
  split at h
  · rename_i fs hu
    split at h
    · rename_i f hf
      cases hk : tyk P f.type with
      | none => simp [hk] at h
      | some k' =>
        simp only [hk, Option.map_some, Option.some.injEq, Prod.mk.injEq] at h
        obtain ⟨rfl, rfl⟩ := h
        refine ⟨f.type, hk, fun us w => ?_⟩
        simp [Instr.field, run_underlying (w := w) hu, hf, asAgg]
    · cases h
  · cases h
theorem OT.field {t i off : Nat} {x : Operand} {A : AV} {cs : List DV} {Y : DV} (hn : Nat.blt d C.n = true) (hx : ev L x = some A) (hA : A.dv = some (.ag cs)) (hf : fld P t i = some (off, none)) (hc : cs[off]? = some Y) :
    OT P C ⟨some d, .field t x i, ty, pos, af, gd⟩ L Γ (upd L d (A.re Y)) Γ :=
  OT.value hn (fun g hg => absurd hg (AV.re_id A Y g)) fun ρ a w h => by
    have h1 := ev_rep h hx
    have h2 := dv_rep h1 hA
    unfold DV.rep at h2
    obtain ⟨us, hu, hl⟩ := h2
    obtain ⟨u, hu2, _⟩ := repL_get hl hc
    obtain ⟨ft, k1, k2⟩ := field_run hf
    refine ⟨u, ?_, AV.re_rep h1 hA fun J hJ => ?_⟩
    · simp only [execOp, hu, Sem.run_bind, k2, (part_run k1).1 u rfl hu2, Result.andThen_ok, Sem.run_pure]
    · unfold DV.rep at hJ
      obtain ⟨us', hu', hl'⟩ := hJ
      rw [hu] at hu'
      simp at hu'; subst hu'
      obtain ⟨u', e1, e2⟩ := repL_get hl' hc
      rw [hu2] at e1; injection e1 with e1; rw [e1]; exact e2
theorem OT.fieldm {t i off n : Nat} {x : Operand} {A : AV} {cs ds : List DV} (hn : Nat.blt d C.n = true) (hx : ev L x = some A) (hA : A.dv = some (.ag cs)) (hf : fld P t i = some (off, some n)) (hc : (cs.drop off).take n = ds) :
    OT P C ⟨some d, .field t x i, ty, pos, af, gd⟩ L Γ (upd L d (A.re (.ag ds))) Γ :=
  OT.value hn (fun g hg => absurd hg (AV.re_id A _ g)) fun ρ a w h => by
    have h1 := ev_rep h hx
    have h2 := dv_rep h1 hA
    unfold DV.rep at h2
    obtain ⟨us, hu, hl⟩ := h2
    obtain ⟨ft, k1, k2⟩ := field_run hf
    refine ⟨.agg ((us.drop off).take n).toArray, ?_, AV.re_rep h1 hA fun J hJ => ?_⟩
    · simp only [execOp, hu, Sem.run_bind, k2, (part_run k1).2 n rfl, Result.andThen_ok, Sem.run_pure]
    · unfold DV.rep at hJ ⊢
      obtain ⟨us', hu', hl'⟩ := hJ
      rw [hu] at hu'
      simp at hu'; subst hu'
      exact ⟨_, rfl, by rw [← hc]; exact repL_take n (repL_drop off hl')⟩
end
/-! Contracts of arguments that are nothing. -/
theorem PF.nil1 {P : Program} {f : FuncId} {α : Type} {enc : α → List DV} {sz : Nat} {Xs : List DV} {Y : DV} (h : PF P f (slT enc sz [] :: Xs) Y) : PF P f (.v (.slice none 0 0) :: Xs) Y := fun w us hr => h w us (by
  unfold repL at hr ⊢
  obtain ⟨u, t, rfl, h1, h2⟩ := hr
  unfold DV.rep at h1; subst h1
  exact ⟨_, t, rfl, by unfold slT DV.rep; exact .inl ⟨rfl, rfl, rfl⟩, h2⟩)
theorem PF.nil2 {P : Program} {f : FuncId} {α : Type} {enc : α → List DV} {sz : Nat} {X : DV} {Xs : List DV} {Y : DV} (h : PF P f (X :: slT enc sz [] :: Xs) Y) : PF P f (X :: .v (.slice none 0 0) :: Xs) Y := fun w us hr => h w us (by
  unfold repL at hr ⊢
  obtain ⟨u0, t0, rfl, h0, hr⟩ := hr
  unfold repL at hr
  obtain ⟨u, t, rfl, h1, h2⟩ := hr
  unfold DV.rep at h1; subst h1
  exact ⟨u0, _, rfl, h0, by unfold repL; exact ⟨_, t, rfl, by unfold slT DV.rep; exact .inl ⟨rfl, rfl, rfl⟩, h2⟩⟩)
end Go.Proofs.Ythbcbfghfhecjaa.Pl
