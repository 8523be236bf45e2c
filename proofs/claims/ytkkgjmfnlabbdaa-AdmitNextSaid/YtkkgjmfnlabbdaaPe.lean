/-
  A logic of walks: stores, new variables, literals.
-/
import Derived.Test.YtkkgjmfnlabbdaaPd
import Derived.Great.Walk
namespace Go.Proofs.Ytkkgjmfnlabbdaa.Pl
set_option linter.unusedVariables false
set_option linter.unusedSimpArgs false
open Go.RowKit

def splice {α : Type} (cs : List α) (off : Nat) (ds : List α) : List α := cs.take off ++ ds ++ cs.drop (off + ds.length)
theorem splice_rep {K : Nat → Prop} {w : World} {cs ds : List DV} {us vs : List Value} (off : Nat) (h : repL K w cs us) (k : repL K w ds vs) : repL K w (splice cs off ds) (splice us off vs) := by
  unfold splice
  rw [show vs.length = ds.length from repL_length k]
  exact repL_append (repL_append (repL_take off h) k) (repL_drop _ h)
theorem splice_mem {us vs : List Value} {off : Nat} {p : Value → Prop} (h : ∀ u ∈ us, p u) (k : ∀ u ∈ vs, p u) : ∀ u ∈ splice us off vs, p u := by
  intro u hu
  unfold splice at hu
  simp only [List.mem_append] at hu
  rcases hu with (hu | hu) | hu
  · exact h u (List.mem_of_mem_take hu)
  · exact k u hu
  · exact h u (List.mem_of_mem_drop hu)
theorem splice_length {α : Type} {cs ds : List α} {off : Nat} (h : off + ds.length ≤ cs.length) : (splice cs off ds).length = cs.length := by
  unfold splice; simp; omega
theorem heap_row_turn {w : World} {b : Nat} {us : List Value} {T : TypeId} {off : Nat} {vs : List Value} {P : Program} (hg : w.heap[b]? = some (.cells us.toArray T (0, 0))) (hl : off + vs.length ≤ us.length) (h1 : ∀ v ∈ vs, v.oneCell' = true) :
    (storeCells ⟨b, off, none⟩ vs).run P w = .ok () (w.setRow b (splice us off vs).toArray) ∧ (w.setRow b (splice us off vs).toArray).heap[b]? = some (.cells (splice us off vs).toArray T (0, 0)) ∧ w.grownBy (w.setRow b (splice us off vs).toArray) (some b) ∧ bsz (w.setRow b (splice us off vs).toArray) b = bsz w b := by
  have h2 := run_storeCells_at P b off T vs 0 us.toArray w hg (by simpa using hl) h1
  simp only [Nat.add_zero] at h2
  have h3 := setRow_heap w b _ (splice us off vs).toArray T (0, 0) hg
  refine ⟨h2, h3, ⟨rfl, rfl, rfl, by simp [World.setRow], fun k hk hne => setRow_other _ _ _ _ (fun e => hne (by rw [e]))⟩, ?_⟩
  unfold bsz
  rw [h3, hg]
  simp [splice_length hl]

section
variable {P : Program} {C : Cx} {L : Lo} {Γ : Ga} {d : Nat} {ty : TypeId} {pos : String} {af : Array Edge} {gd : Option (Nat × Bool)}
/-- An operation that gives a value and turns memory. -/
theorem OT.turns {d : Option Nat} {L' : Lo} {Γ' : Ga} {p : Op}
    (h : ∀ ρ a w, RepsAt C ρ L Γ a w → ∃ u w', (execOp a.eval ⟨d, p, ty, pos, af, gd⟩).run P w = .ok (.value u) w' ∧ Reps C L' Γ' (a.put d u) w') : OT P C ⟨d, p, ty, pos, af, gd⟩ L Γ L' Γ' := by
  rintro a w ⟨ρ, hr⟩
  obtain ⟨u, w', h1, h2⟩ := h ρ a w hr
  unfold Oper.wp
  rw [h1, Oper.upon_value]
  exact h2
/-- A store into a block of one's own. -/
theorem OT.store {t g off : Nat} {x y : Operand} {T : TypeId} {cs : List DV} {X : DV} (hx : ev L x = some (.ptr g off)) (hg : Γ g = some (.box T cs)) (hy : evd L y = some X) (ht : szt P t = some X.cells.length) (h1 : X.cells.all DV.one = true) (hl : Nat.ble (off + X.cells.length) cs.length = true) :
    OT P C ⟨none, .store t x y, ty, pos, af, gd⟩ L Γ L (upd Γ g (.box T (splice cs off X.cells))) := by
  rintro a w ⟨ρ, h⟩
  have hd : (AO.box T cs) ≠ .dead := by simp
  obtain ⟨ob, hb, ho⟩ := h.obj g _ hg hd
  obtain ⟨b, us, rfl, k1, k2, k3⟩ := ho
  obtain ⟨b', e, hv⟩ := ev_rep h hx _ hb
  cases e
  obtain ⟨c1, c2⟩ := cells_rep (evd_rep h hy) h1
  have hlen : (a.eval y).cells.toList.length = X.cells.length := repL_length c1
  have hle : off + X.cells.length ≤ cs.length := by simpa using hl
  have hlu : us.length = cs.length := repL_length k2
  obtain ⟨s1, s2, s3, s4⟩ := heap_row_turn (P := P) k1 (off := off) (vs := (a.eval y).cells.toList) (by omega) c2
  unfold Oper.wp
  have hrun : (execOp a.eval ⟨none, .store t x y, ty, pos, af, gd⟩).run P w = .ok .skip (w.setRow b (splice us off (a.eval y).cells.toList).toArray) := by
    have hsz : (a.eval y).cells.size = X.cells.length := by rw [← hlen]; simp
    simp [execOp, hv, Instr.storeAt, Instr.sureAddr, storeVar, szt_run ht, hsz, s1]
  rw [hrun, Oper.upon_skip]
  exact ⟨ρ, h.turn ⟨_, hg, hd⟩ hb s3 s4 (by simp) ⟨b, _, rfl, s2, splice_rep off (repL_mono (fun b' hb' hn => ⟨s3.block b' hb' (fun e => hn (.inr ⟨g, ⟨_, hg, hd⟩, by rw [hb]; cases e; rfl⟩)), Nat.lt_of_lt_of_le hb' s3.size, hn⟩) _ _ k2) (repL_mono (fun b' hb' hn => ⟨s3.block b' hb' (fun e => hn (.inr ⟨g, ⟨_, hg, hd⟩, by rw [hb]; cases e; rfl⟩)), Nat.lt_of_lt_of_le hb' s3.size, hn⟩) _ _ c1), splice_mem k3 c2⟩⟩
theorem run_newVar {t : TypeId} (v : Value) (w : World) : (newVar t v).run P w = .ok ⟨w.heap.size, 0, none⟩ (w.alloc (.cells v.cells t)) := by
  simp [newVar, newRow]
theorem OT.alloc {t : TypeId} {zs : List Value} (g : Nat) (hn : Nat.blt d C.n = true) (hg : Γ g = none) (hz : zc P t = some zs) (h1 : zs.all Value.oneCell' = true) :
    OT P C ⟨some d, .alloc t, ty, pos, af, gd⟩ L Γ (upd L d (.ptr g 0)) (upd Γ g (.box t (zs.map .v))) :=
  OT.turns fun ρ a w h => by
    obtain ⟨z, hz1, rfl⟩ := zc_run hz w
    refine ⟨.pointer (some ⟨w.heap.size, 0, none⟩), w.alloc (.cells z.cells t), by simp [execOp, Instr.alloc, hz1, run_newVar], ?_⟩
    obtain ⟨ρ', hr, hρ, _⟩ := h.fresh (g := g) (b := w.heap.size) (o' := .box t (z.cells.toList.map .v)) hg (grown_alloc w (.cells z.cells t)) ⟨Nat.le_refl _, by simp⟩ (by simp)
      (fun K hK _ => ⟨w.heap.size, z.cells.toList, rfl, by rw [Array.toArray_toList]; exact heap_alloc_new _ _, repL_v _, List.all_eq_true.1 h1⟩)
    refine ⟨ρ', hr.put (by simpa using hn) (fun ob hob => ?_) (fun g' hg' => ?_)⟩
    · rw [hρ] at hob; cases hob; exact ⟨_, rfl, rfl⟩
    · cases hg'; rw [upd_same]; simp
theorem OT.box {t : TypeId} {x : Operand} {X : DV} (g : Nat) (hn : Nat.blt d C.n = true) (hg : Γ g = none) (hx : evd L x = some X) (h1 : X.cells.all DV.one = true) :
    OT P C ⟨some d, .box t x, ty, pos, af, gd⟩ L Γ (upd L d (.ptr g 0)) (upd Γ g (.box t X.cells)) :=
  OT.turns fun ρ a w h => by
    obtain ⟨c1, c2⟩ := cells_rep (evd_rep h hx) h1
    refine ⟨.pointer (some ⟨w.heap.size, 0, none⟩), w.alloc (.cells (a.eval x).cells t), by simp [execOp, Instr.box, run_newVar], ?_⟩
    obtain ⟨ρ', hr, hρ, _⟩ := h.fresh (g := g) (b := w.heap.size) (o' := .box t X.cells) hg (grown_alloc w (.cells (a.eval x).cells t)) ⟨Nat.le_refl _, by simp⟩ (by simp)
      (fun K hK _ => ⟨w.heap.size, (a.eval x).cells.toList, rfl, by rw [Array.toArray_toList]; exact heap_alloc_new _ _, repL_mono hK _ _ c1, c2⟩)
    refine ⟨ρ', hr.put (by simpa using hn) (fun ob hob => ?_) (fun g' hg' => ?_)⟩
    · rw [hρ] at hob; cases hob; exact ⟨_, rfl, rfl⟩
    · cases hg'; rw [upd_same]; simp
end

/-! Literals of structs, arrays and slices. -/
theorem fold_splice (off : Nat) : ∀ (l : List Value) (k : Nat) (arr : Array Value), off + k + l.length ≤ arr.size →
    ((l.zipIdx k).foldl (fun cs (x : Value × Nat) => cs.setIfInBounds (off + x.2) x.1) arr).toList = splice arr.toList (off + k) l
  | [], k, arr, h => by simp [splice]
  | v :: r, k, arr, h => by
    simp only [List.length_cons] at h
    rw [List.zipIdx_cons, List.foldl_cons, fold_splice off r (k + 1) _ (by simp; omega)]
    unfold splice
    rw [Array.toList_setIfInBounds]
    apply List.ext_getElem?
    intro j
    simp only [List.getElem?_append, List.length_append, List.length_take, List.length_set, Array.length_toList, List.length_cons, List.getElem?_take, List.getElem?_drop, List.getElem?_set]
    have h1 : min (off + (k + 1)) arr.size = off + k + 1 := by omega
    have h2 : min (off + k) arr.size = off + k := by omega
    rw [h1, h2]
    by_cases a1 : j < off + k
    · rw [if_pos (by omega), if_pos (by omega), if_pos (by omega), if_neg (by omega), if_pos (by omega), if_pos (by omega), if_pos a1]
    · by_cases a2 : j = off + k
      · subst a2
        rw [if_pos (by omega), if_pos (by omega), if_pos (by omega), if_pos rfl, if_pos (by omega), if_pos (by omega), if_neg (by omega)]
        simp
      · by_cases a3 : j < off + k + 1 + r.length
        · rw [if_pos (by omega), if_neg (by omega), if_pos (by omega), if_neg (by omega)]
          rw [show j - (off + k) = (j - (off + k + 1)) + 1 by omega, List.getElem?_cons_succ]
        · rw [if_neg (by omega), if_neg (by omega), if_neg (by omega)]
          rw [show off + (k + 1) + r.length + (j - (off + k + 1 + r.length)) = off + k + (r.length + 1) + (j - (off + k + (r.length + 1))) by omega]
def bldD (pl : List (Nat × Nat)) : List DV → List (Nat × DV) → Option (List DV)
  | cs, [] => some cs
  | cs, (i, X) :: r => match pl[i]? with
    | none => none
    | some (off, size) => bif Nat.beq X.cells.length size && Nat.ble (off + size) cs.length && X.cells.all DV.one then bldD pl (splice cs off X.cells) r else none
def repP (K : Nat → Prop) (w : World) : List (Nat × DV) → List (Nat × Value) → Prop
  | [], us => us = []
  | (i, X) :: r, us => ∃ u t, us = (i, u) :: t ∧ X.rep K w u ∧ repP K w r t
theorem fill_bld {K : Nat → Prop} {w : World} {pl : List (Nat × Nat)} {place : Nat → Option (Nat × Nat)} (hp : ∀ i x, pl[i]? = some x → place i = some x) : ∀ (parts : List (Nat × DV)) (us : List (Nat × Value)) (cs ds : List DV) (arr : Array Value),
    repP K w parts us → repL K w cs arr.toList → (∀ u ∈ arr.toList, u.oneCell' = true) → bldD pl cs parts = some ds → ∃ r, Instr.fill place arr us = some r ∧ repL K w ds r.toList ∧ ∀ u ∈ r.toList, u.oneCell' = true
  | [], us, cs, ds, arr, h, hc, h1, hb => by
    unfold repP at h; subst h
    simp only [bldD, Option.some.injEq] at hb; subst hb
    exact ⟨arr, rfl, hc, h1⟩
  | (i, X) :: r, us, cs, ds, arr, h, hc, h1, hb => by
    unfold repP at h
    obtain ⟨u, t, rfl, hX, ht⟩ := h
    unfold bldD at hb
    cases hpl : pl[i]? with
    | none => simp [hpl] at hb
    | some x =>
      obtain ⟨off, size⟩ := x
      simp only [hpl] at hb
      cases hcond : (Nat.beq X.cells.length size && Nat.ble (off + size) cs.length && X.cells.all DV.one) with
      | false => rw [hcond] at hb; simp at hb
      | true =>
        rw [hcond, cond_true] at hb
        simp only [Bool.and_eq_true, Nat.beq_eq, Nat.ble_eq] at hcond
        obtain ⟨⟨q1, q2⟩, q3⟩ := hcond
        obtain ⟨c1, c2⟩ := cells_rep hX q3
        have hlen : u.cells.toList.length = X.cells.length := repL_length c1
        have hal : arr.toList.length = cs.length := repL_length hc
        have hsz : u.cells.size = size := by rw [← q1, ← hlen]; simp
        have hfs := fold_splice off u.cells.toList 0 arr (by simp only [Array.length_toList] at hlen hal ⊢; omega)
        rw [Nat.add_zero] at hfs
        have hz : (Array.foldl (fun cs (x : Value × Nat) => cs.setIfInBounds (off + x.2) x.1) arr u.cells.zipIdx) = (splice arr.toList off u.cells.toList).toArray := by
          apply Array.ext'
          rw [← Array.foldl_toList, Array.toList_zipIdx, List.toList_toArray]
          exact hfs
        obtain ⟨rr, k1, k2, k3⟩ := fill_bld hp r t (splice cs off X.cells) ds (splice arr.toList off u.cells.toList).toArray ht (by rw [List.toList_toArray]; exact splice_rep off hc c1) (by rw [List.toList_toArray]; exact splice_mem h1 c2) hb
        refine ⟨rr, ?_, k2, k3⟩
        rw [← k1, ← hz]
        show (match place i with
          | none => none
          | some (off, size) => if u.cells.size ≠ size || off + u.cells.size > arr.size then none else Instr.fill place (u.cells.zipIdx.foldl (fun cs (c, j) => cs.setIfInBounds (off + j) c) arr) t) = _
        rw [hp i _ hpl]
        have hcnd : (decide (u.cells.size ≠ size) || decide (off + u.cells.size > arr.size)) = false := by
          have : arr.size = cs.length := by rw [← hal]; simp
          simp [hsz]; omega
        simp only [hcnd, Bool.false_eq_true, if_false]
/-- A struct's or an array's zero cells, and where its parts lie. -/
def stp (P : Program) (t : TypeId) : Option (List Value × List (Nat × Nat)) :=
  match P.info? t with
  | none => none
  | some it => match it.zero, P.underlying t with
    | some z, some (.array n e) => (P.info? e).map fun ie => (z.cells.toList, (List.range n).map fun i => (i * ie.size, ie.size))
    | some z, some (.struct fs) => (fs.toList.mapM (fun f => (P.info? f.type).map fun i => (f.offset, i.size))).map fun pl => (z.cells.toList, pl)
    | _, _ => none
theorem built_rep {P : Program} {K : Nat → Prop} {w : World} {t : TypeId} {zs : List Value} {pl : List (Nat × Nat)} (h : stp P t = some (zs, pl)) (h1 : zs.all Value.oneCell' = true) {parts : List (Nat × DV)} {us : List (Nat × Value)} {ds : List DV} (hr : repP K w parts us)
    (hb : bldD pl (zs.map .v) parts = some ds) : ∃ r, P.built t us = some r ∧ repL K w ds r.toList := by
  unfold stp at h
  cases hi : P.info? t with
  | none => simp [hi] at h
  | some it =>
    cases hz : it.zero with
    | none => cases hu : P.underlying t with
      | none => simp [hi, hz, hu] at h
      | some d => cases d <;> simp [hi, hz, hu] at h
    | some z =>
      cases hu : P.underlying t with
      | none => simp [hi, hz, hu] at h
      | some d =>
        cases d <;> try (simp [hi, hz, hu] at h; done)
        case array n e =>
          cases he : P.info? e with
          | none => simp [hi, hz, hu, he] at h
          | some ie =>
            simp only [hi, hz, hu, he, Option.map_some, Option.some.injEq, Prod.mk.injEq] at h
            obtain ⟨rfl, rfl⟩ := h
            obtain ⟨r, k1, k2, _⟩ := fill_bld (K := K) (w := w) (place := fun i => some (i * ie.size, ie.size)) (by
              intro i x hx
              rw [List.getElem?_map] at hx
              cases hq : (List.range n)[i]? with
              | none => simp [hq] at hx
              | some j =>
                rw [hq] at hx; simp at hx
                have : j = i := by have := List.getElem?_range (show i < n from by have := (List.getElem?_eq_some_iff.1 hq).1; simpa using this); rw [hq] at this; injection this
                subst this; rw [← hx]) parts us _ ds z.cells hr (repL_v _) (List.all_eq_true.1 h1) hb
            exact ⟨r, by simp only [Program.built, hi, hu, hz, he, k1], k2⟩
        case struct fs =>
          cases hm : fs.toList.mapM (fun f => (P.info? f.type).map fun i => (f.offset, i.size)) with
          | none => simp [hi, hz, hu, hm] at h
          | some pls =>
            simp only [hi, hz, hu, hm, Option.map_some, Option.some.injEq, Prod.mk.injEq] at h
            obtain ⟨rfl, rfl⟩ := h
            obtain ⟨r, k1, k2, _⟩ := fill_bld (K := K) (w := w) (place := fun i => pls.toArray[i]?) (by intro i x hx; simpa using hx) parts us _ ds z.cells hr (repL_v _) (List.all_eq_true.1 h1) hb
            exact ⟨r, by simp only [Program.built, hi, hu, hz, hm]; exact k1, k2⟩
def evP (L : Lo) : List (Nat × Operand) → Option (List (Nat × DV))
  | [] => some []
  | (i, x) :: r => match evd L x, evP L r with
    | some X, some l => some ((i, X) :: l)
    | _, _ => none
section
variable {P : Program} {C : Cx} {L : Lo} {Γ : Ga} {d : Nat} {ty : TypeId} {pos : String} {af : Array Edge} {gd : Option (Nat × Bool)}
theorem evP_rep {ρ : Rho} {a : Act} {w : World} (h : RepsAt C ρ L Γ a w) : ∀ {ps : List (Nat × Operand)} {Xs : List (Nat × DV)}, evP L ps = some Xs → repP (KK C.K0 ρ Γ) w Xs (ps.map fun (i, x) => (i, a.eval x))
  | [], Xs, hx => by simp only [evP, Option.some.injEq] at hx; subst hx; simp [repP]
  | (i, x) :: r, Xs, hx => by
    unfold evP at hx
    cases h1 : evd L x with
    | none => simp [h1] at hx
    | some X =>
      cases h2 : evP L r with
      | none => simp [h1, h2] at hx
      | some l =>
        simp only [h1, h2, Option.some.injEq] at hx
        subst hx
        unfold repP
        exact ⟨_, _, rfl, evd_rep h h1, evP_rep h h2⟩
theorem OT.build {t : TypeId} {ps : List (Nat × Operand)} {Xs : List (Nat × DV)} {zs : List Value} {pl : List (Nat × Nat)} {ds : List DV} (hn : Nat.blt d C.n = true) (hx : evP L ps = some Xs) (hs : stp P t = some (zs, pl)) (h1 : zs.all Value.oneCell' = true) (hb : bldD pl (zs.map .v) Xs = some ds) :
    OT P C ⟨some d, .build t ps.toArray, ty, pos, af, gd⟩ L Γ (upd L d (.d (.ag ds))) Γ :=
  OT.value hn (fun g hg => by simp [AV.id] at hg) fun ρ a w h => by
    obtain ⟨r, k1, k2⟩ := built_rep hs h1 (evP_rep h hx) hb
    refine ⟨.agg r, ?_, ?_⟩
    · have := run_build (P := P) w t (ps.toArray.map fun (i, x) => (i, a.eval x)) r (by simpa using k1)
      simp only [execOp, Sem.run_bind, this, Result.andThen_ok, Sem.run_pure]
    · show DV.rep _ _ _ _
      unfold DV.rep
      exact ⟨r.toList, by simp, k2⟩
end
end Go.Proofs.Ytkkgjmfnlabbdaa.Pl
