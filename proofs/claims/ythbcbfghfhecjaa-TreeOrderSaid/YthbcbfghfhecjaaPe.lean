/-
  A logic of walks: stores, new variables, literals.
-/
import Derived.Test.YthbcbfghfhecjaaPd
import Derived.Great.Walk
namespace Go.Proofs.Ythbcbfghfhecjaa.Pl
set_option linter.unusedVariables false
set_option linter.unusedSimpArgs false
open Go.RowKit

def splice {α : Type} (cs : List α) (off : Nat) (ds : List α) : List α := cs.take off ++ ds ++ cs.drop (off + ds.length)
theorem splice_rep {K : Nat → Prop} {w : World} {cs ds : List DV} {us vs : List Value} (off : Nat) (h : repL K w cs us) (k : repL K w ds vs) : repL K w (splice cs off ds) (splice us off vs) := by
  unfold splice
  rw [show vs.length = ds.length from repL_length k]
  exact repL_append (repL_append (repL_take off h) k) (repL_drop _ h)
theorem splice_mem {us vs : List Value} {off : Nat} {p : Value → Prop} (h : ∀ u ∈ us, p u) (k : ∀ u ∈ vs, p u) : ∀ u ∈ splice us off vs, p u := by
  intro u hu
  unfold splice at hu
  simp only [List.mem_append] at hu
  rcases hu with (hu | hu) | hu
  · exact h u (List.mem_of_mem_take hu)
  · exact k u hu
  · exact h u (List.mem_of_mem_drop hu)
theorem splice_length {α : Type} {cs ds : List α} {off : Nat} (h : off + ds.length ≤ cs.length) : (splice cs off ds).length = cs.length := by
  unfold splice; simp; omega
theorem heap_row_turn {w : World} {b : Nat} {us : List Value} {T : TypeId} {off : Nat} {vs : List Value} {P : Program} (hg : w.heap[b]? = some (.cells us.toArray T (0, 0))) (hl : off + vs.length ≤ us.length) (h1 : ∀ v ∈ vs, v.oneCell' = true) :
    (storeCells ⟨b, off, none⟩ vs).run P w = .ok () (w.setRow b (splice us off vs).toArray) ∧ (w.setRow b (splice us off vs).toArray).heap[b]? = some (.cells (splice us off vs).toArray T (0, 0)) ∧ w.grownBy (w.setRow b (splice us off vs).toArray) (some b) ∧ bsz (w.setRow b (splice us off vs).toArray) b = bsz w b := by
  have h2 := run_storeCells_at P b off T vs 0 us.toArray w hg (by simpa using hl) h1
  simp only [Nat.add_zero] at h2
  have h3 := setRow_heap w b _ (splice us off vs).toArray T (0, 0) hg
  refine ⟨h2, h3, ⟨rfl, rfl, rfl, by simp [World.setRow], fun k hk hne => setRow_other _ _ _ _ (fun e => hne (by rw [e]))⟩, ?_⟩
  unfold bsz
  rw [h3, hg]
  simp [splice_length hl]

section
variable {P : Program} {C : Cx} {L : Lo} {Γ : Ga} {d : Nat} {ty : TypeId} {pos : String} {af : Array Edge} {gd : Option (Nat × Bool)}
/-- An operation that gives a value and turns memory. -/
theorem OT.turns {d : Option Nat} {L' : Lo} {Γ' : Ga} {p : Op}
    (h : ∀ ρ a w, RepsAt C ρ L Γ a w → ∃ u w', (execOp a.eval ⟨d, p, ty, pos, af, gd⟩).run P w = .ok (.value u) w' ∧ Reps C L' Γ' (a.put d u) w') : OT P C ⟨d, p, ty, pos, af, gd⟩ L Γ L' Γ' := by
  rintro a w ⟨ρ, hr⟩
  obtain ⟨u, w', h1, h2⟩ := h ρ a w hr
  unfold Oper.wp
  rw [h1, Oper.upon_value]
  exact h2
theorem splice_take {α : Type} {us vs : List α} {off n : Nat} (h : off + vs.length ≤ n) (hn : n ≤ us.length) : (splice us off vs).take n = splice (us.take n) off vs := by
  unfold splice
  have h1 : (us.take off).length = off := by simp; omega
  rw [List.append_assoc, List.append_assoc, List.take_append, List.take_of_length_le (by omega), h1, List.take_append, List.take_of_length_le (by omega : vs.length ≤ n - off), List.take_take, Nat.min_eq_left (by omega : off ≤ n), List.drop_take]
  congr 3
  omega
/-- The same block with other cells. -/
def AO.re (cs : List DV) : AO → AO
  | .box T _ => .box T cs
  | .row T sz _ => .row T sz cs
  | .mbox k T _ => .mbox k T cs
  | .mrow k T sz _ => .mrow k T sz cs
  | .dead => .dead
theorem AO.re_key (o : AO) (cs : List DV) : (o.re cs).key = o.key := by cases o <;> rfl
theorem AO.re_dead (o : AO) (cs : List DV) (h : o ≠ .dead) : o.re cs ≠ .dead := by cases o <;> simp [AO.re] <;> exact h rfl
/-- The values of a block, those that are known and the others behind. -/
theorem AO.vals {K : Nat → Prop} {w : World} {o : AO} {cs : List DV} {b : Nat} (ho : o.cells = some cs) (h : o.rep K w (some b)) : ∃ (us : List Value) (T : TypeId), w.heap[b]? = some (.cells us.toArray T (0, 0)) ∧ cs.length ≤ us.length ∧ repL K w cs (us.take cs.length) ∧ (∀ u ∈ us.take cs.length, u.oneCell' = true) ∧
    ∀ (K' : Nat → Prop) (w' : World) (us' : List Value) (cs' : List DV), w'.heap[b]? = some (.cells us'.toArray T (0, 0)) → us'.length = us.length → cs'.length = cs.length → repL K' w' cs' (us'.take cs.length) → (∀ u ∈ us'.take cs.length, u.oneCell' = true) → (o.re cs').rep K' w' (some b) := by
  have bx : ∀ T cs', (AO.box T cs').rep K w (some b) → cs' = cs → ∃ (us : List Value) (T' : TypeId), w.heap[b]? = some (.cells us.toArray T' (0, 0)) ∧ cs.length ≤ us.length ∧ repL K w cs (us.take cs.length) ∧ (∀ u ∈ us.take cs.length, u.oneCell' = true) ∧
      ∀ (K' : Nat → Prop) (w' : World) (us' : List Value) (ds : List DV), w'.heap[b]? = some (.cells us'.toArray T' (0, 0)) → us'.length = us.length → ds.length = cs.length → repL K' w' ds (us'.take cs.length) → (∀ u ∈ us'.take cs.length, u.oneCell' = true) → (AO.box T ds).rep K' w' (some b) := fun T cs' h e => by
    subst e
    obtain ⟨b', us, e, h1, h2, h3⟩ := h
    cases e
    have hl := repL_length h2
    refine ⟨us, T, h1, by omega, by rw [← hl, List.take_length]; exact h2, by rw [← hl, List.take_length]; exact h3, fun K' w' us' ds q1 q2 q3 q4 q5 => ?_⟩
    rw [← hl, ← q2, List.take_length] at q4 q5
    exact ⟨b, us', rfl, q1, q4, q5⟩
  have rw' : ∀ T sz cs', (AO.row T sz cs').rep K w (some b) → cs' = cs → ∃ (us : List Value) (T' : TypeId), w.heap[b]? = some (.cells us.toArray T' (0, 0)) ∧ cs.length ≤ us.length ∧ repL K w cs (us.take cs.length) ∧ (∀ u ∈ us.take cs.length, u.oneCell' = true) ∧
      ∀ (K' : Nat → Prop) (w' : World) (us' : List Value) (ds : List DV), w'.heap[b]? = some (.cells us'.toArray T' (0, 0)) → us'.length = us.length → ds.length = cs.length → repL K' w' ds (us'.take cs.length) → (∀ u ∈ us'.take cs.length, u.oneCell' = true) → (AO.row T sz ds).rep K' w' (some b) := fun T sz cs' h e => by
    subst e
    rcases h with ⟨h, _⟩ | ⟨b', us, cap, e, h1, h2, h3, h4, h5, h6⟩
    · cases h
    · cases e
      exact ⟨us, T, h1, h4, h5, h6, fun K' w' us' ds q1 q2 q3 q4 q5 => .inr ⟨b, us', cap, rfl, q1, by omega, h3, by omega, by rw [q3]; exact q4, by rw [q3]; exact q5⟩⟩
  cases o with
  | dead => simp [AO.cells] at ho
  | box T cs' => exact bx T cs' h (by simpa [AO.cells] using ho)
  | row T sz cs' => exact rw' T sz cs' h (by simpa [AO.cells] using ho)
  | mbox _ T cs' => exact bx T cs' h (by simpa [AO.cells] using ho)
  | mrow _ T sz cs' => exact rw' T sz cs' h (by simpa [AO.cells] using ho)
/-- A store into a block of one's own, or of one that is lent. -/
theorem OT.storeg {t g off : Nat} {x y : Operand} {o : AO} {cs : List DV} {X : DV} (hx : ev L x = some (.ptr g off)) (hg : Γ g = some o) (ho : o.cells = some cs) (hy : evd L y = some X) (ht : szt P t = some X.cells.length) (h1 : X.cells.all DV.one = true) (hle : off + X.cells.length ≤ cs.length) :
    OT P C ⟨none, .store t x y, ty, pos, af, gd⟩ L Γ L (upd Γ g (o.re (splice cs off X.cells))) := by
  rintro a w ⟨ρ, h⟩
  have hd : o ≠ .dead := by rintro rfl; simp [AO.cells] at ho
  obtain ⟨ob, hb, hr⟩ := h.obj g _ hg hd
  obtain ⟨b, e, hv⟩ := ev_rep h hx _ hb
  cases e
  obtain ⟨us, T, k1, k0, k2, k3, back⟩ := AO.vals ho hr
  obtain ⟨c1, c2⟩ := cells_rep (evd_rep h hy) h1
  have hlen : (a.eval y).cells.toList.length = X.cells.length := repL_length c1
  obtain ⟨s1, s2, s3, s4⟩ := heap_row_turn (P := P) k1 (off := off) (vs := (a.eval y).cells.toList) (by omega) c2
  unfold Oper.wp
  have hrun : (execOp a.eval ⟨none, .store t x y, ty, pos, af, gd⟩).run P w = .ok .skip (w.setRow b (splice us off (a.eval y).cells.toList).toArray) := by
    have hsz : (a.eval y).cells.size = X.cells.length := by rw [← hlen]; simp
    simp [execOp, hv, Instr.storeAt, Instr.sureAddr, storeVar, szt_run ht, hsz, s1]
  rw [hrun, Oper.upon_skip]
  have hk : Keeps (KK C.K0 ρ Γ) (KK C.K0 ρ Γ) w (w.setRow b (splice us off (a.eval y).cells.toList).toArray) := fun b' hb' hn => ⟨s3.block b' hb' (fun e => hn (.inr ⟨g, ⟨_, hg, hd⟩, by rw [hb]; cases e; rfl⟩)), Nat.lt_of_lt_of_le hb' s3.size, hn⟩
  refine ⟨ρ, h.turn ⟨_, hg, hd⟩ hb s3 s4 (AO.re_dead _ _ hd) (fun o' ho' => by rw [hg] at ho'; cases ho'; exact (AO.re_key _ _).symm) (back _ _ _ _ s2 (splice_length (by omega)) (splice_length hle) ?_ ?_)⟩
  · rw [splice_take (by omega) k0]
    exact splice_rep off (repL_mono hk _ _ k2) (repL_mono hk _ _ c1)
  · rw [splice_take (by omega) k0]
    exact splice_mem k3 c2
theorem OT.store {t g off : Nat} {x y : Operand} {T : TypeId} {cs : List DV} {X : DV} (hx : ev L x = some (.ptr g off)) (hg : Γ g = some (.box T cs)) (hy : evd L y = some X) (ht : szt P t = some X.cells.length) (h1 : X.cells.all DV.one = true) (hl : Nat.ble (off + X.cells.length) cs.length = true) :
    OT P C ⟨none, .store t x y, ty, pos, af, gd⟩ L Γ L (upd Γ g (.box T (splice cs off X.cells))) := OT.storeg hx hg rfl hy ht h1 (by simpa using hl)
theorem OT.storem {t g off k : Nat} {x y : Operand} {T : TypeId} {cs : List DV} {X : DV} (hx : ev L x = some (.ptr g off)) (hg : Γ g = some (.mbox k T cs)) (hy : evd L y = some X) (ht : szt P t = some X.cells.length) (h1 : X.cells.all DV.one = true) (hl : Nat.ble (off + X.cells.length) cs.length = true) :
    OT P C ⟨none, .store t x y, ty, pos, af, gd⟩ L Γ L (upd Γ g (.mbox k T (splice cs off X.cells))) := OT.storeg hx hg rfl hy ht h1 (by simpa using hl)
theorem splice_app {α : Type} (a b d : List α) (k : Nat) : splice (a ++ b) (a.length + k) d = a ++ splice b k d := by
  unfold splice
  rw [List.take_append, List.take_of_length_le (by omega), show a.length + k - a.length = k by omega, List.drop_append, List.drop_of_length_le (by omega), List.nil_append, show a.length + k + d.length - a.length = k + d.length by omega]
  simp
theorem flat_set {α : Type} {enc : α → List DV} {sz : Nat} (h : ∀ x, (enc x).length = sz) : ∀ (xs : List α) (i : Nat) (v : α), i < xs.length → splice (xs.flatMap enc) (i * sz) (enc v) = (xs.set i v).flatMap enc
  | x :: r, 0, v, _ => by
    unfold splice
    rw [List.flatMap_cons, List.set_cons_zero, List.flatMap_cons, Nat.zero_mul, List.take_zero, List.nil_append, Nat.zero_add, h v, ← h x, List.drop_left]
  | x :: r, i + 1, v, hi => by
    have ih := flat_set h r i v (by simpa using hi)
    rw [List.set_cons_succ, List.flatMap_cons, List.flatMap_cons, ← ih, Nat.succ_mul, show i * sz + sz = (enc x).length + i * sz by rw [h x, Nat.add_comm], splice_app]
/-- A store into an item of a row. -/
theorem OT.storer {α : Type} {enc : α → List DV} {sz i : Nat} {xs : List α} {t g off : Nat} {x y : Operand} {T : TypeId} {cs : List DV} {X : DV} (v : α) (hx : ev L x = some (.ptr g off)) (hoff : off = i * sz) (hg : Γ g = some (.row T sz cs)) (hcs : cs = xs.flatMap enc) (hy : evd L y = some X) (hX : X.cells = enc v) (he : ∀ z, (enc z).length = sz) (ht : szt P t = some sz) (h1 : (enc v).all DV.one = true) (hi : i < xs.length) :
    OT P C ⟨none, .store t x y, ty, pos, af, gd⟩ L Γ L (upd Γ g (.row T sz ((xs.set i v).flatMap enc))) := by
  subst hcs; subst hoff
  have hb : i * sz + sz ≤ xs.length * sz := by rw [← Nat.succ_mul]; exact Nat.mul_le_mul_right _ hi
  have := OT.storeg (P := P) (C := C) (ty := ty) (pos := pos) (af := af) (gd := gd) hx hg rfl hy (by rw [hX, he]; exact ht) (by rw [hX]; exact h1) (by rw [hX, he, flat_length he]; exact hb)
  rw [hX, flat_set he xs i v hi] at this
  exact this
theorem OT.storerm {α : Type} {enc : α → List DV} {sz i k : Nat} {xs : List α} {t g off : Nat} {x y : Operand} {T : TypeId} {cs : List DV} {X : DV} (v : α) (hx : ev L x = some (.ptr g off)) (hoff : off = i * sz) (hg : Γ g = some (.mrow k T sz cs)) (hcs : cs = xs.flatMap enc) (hy : evd L y = some X) (hX : X.cells = enc v) (he : ∀ z, (enc z).length = sz) (ht : szt P t = some sz) (h1 : (enc v).all DV.one = true) (hi : i < xs.length) :
    OT P C ⟨none, .store t x y, ty, pos, af, gd⟩ L Γ L (upd Γ g (.mrow k T sz ((xs.set i v).flatMap enc))) := by
  subst hcs; subst hoff
  have hb : i * sz + sz ≤ xs.length * sz := by rw [← Nat.succ_mul]; exact Nat.mul_le_mul_right _ hi
  have := OT.storeg (P := P) (C := C) (ty := ty) (pos := pos) (af := af) (gd := gd) hx hg rfl hy (by rw [hX, he]; exact ht) (by rw [hX]; exact h1) (by rw [hX, he, flat_length he]; exact hb)
  rw [hX, flat_set he xs i v hi] at this
  exact this
theorem run_newVar {t : TypeId} (v : Value) (w : World) : (newVar t v).run P w = .ok ⟨w.heap.size, 0, none⟩ (w.alloc (.cells v.cells t)) := by
  simp [newVar, newRow]
theorem OT.alloc {t : TypeId} {zs : List Value} (g : Nat) (hn : Nat.blt d C.n = true) (hg : Γ g = none) (hz : zc P t = some zs) (h1 : zs.all Value.oneCell' = true) :
    OT P C ⟨some d, .alloc t, ty, pos, af, gd⟩ L Γ (upd L d (.ptr g 0)) (upd Γ g (.box t (zs.map .v))) :=
  OT.turns fun ρ a w h => by
    obtain ⟨z, hz1, rfl⟩ := zc_run hz w
    refine ⟨.pointer (some ⟨w.heap.size, 0, none⟩), w.alloc (.cells z.cells t), by simp [execOp, Instr.alloc, hz1, run_newVar], ?_⟩
    obtain ⟨ρ', hr, hρ, _⟩ := h.fresh (g := g) (b := w.heap.size) (o' := .box t (z.cells.toList.map .v)) hg (grown_alloc w (.cells z.cells t)) ⟨Nat.le_refl _, by simp⟩ (by simp) rfl
      (fun K hK _ => ⟨w.heap.size, z.cells.toList, rfl, by rw [Array.toArray_toList]; exact heap_alloc_new _ _, repL_v _, List.all_eq_true.1 h1⟩)
    refine ⟨ρ', hr.put (by simpa using hn) (fun ob hob => ?_) (fun g' hg' => ?_)⟩
    · rw [hρ] at hob; cases hob; exact ⟨_, rfl, rfl⟩
    · cases hg'; rw [upd_same]; simp
theorem OT.box {t : TypeId} {x : Operand} {X : DV} (g : Nat) (hn : Nat.blt d C.n = true) (hg : Γ g = none) (hx : evd L x = some X) (h1 : X.cells.all DV.one = true) :
    OT P C ⟨some d, .box t x, ty, pos, af, gd⟩ L Γ (upd L d (.ptr g 0)) (upd Γ g (.box t X.cells)) :=
  OT.turns fun ρ a w h => by
    obtain ⟨c1, c2⟩ := cells_rep (evd_rep h hx) h1
    refine ⟨.pointer (some ⟨w.heap.size, 0, none⟩), w.alloc (.cells (a.eval x).cells t), by simp [execOp, Instr.box, run_newVar], ?_⟩
    obtain ⟨ρ', hr, hρ, _⟩ := h.fresh (g := g) (b := w.heap.size) (o' := .box t X.cells) hg (grown_alloc w (.cells (a.eval x).cells t)) ⟨Nat.le_refl _, by simp⟩ (by simp) rfl
      (fun K hK _ => ⟨w.heap.size, (a.eval x).cells.toList, rfl, by rw [Array.toArray_toList]; exact heap_alloc_new _ _, repL_mono hK _ _ c1, c2⟩)
    refine ⟨ρ', hr.put (by simpa using hn) (fun ob hob => ?_) (fun g' hg' => ?_)⟩
    · rw [hρ] at hob; cases hob; exact ⟨_, rfl, rfl⟩
    · cases hg'; rw [upd_same]; simp
end

/-! Literals of structs, arrays and slices. -/
theorem fold_splice (off : Nat) : ∀ (l : List Value) (k : Nat) (arr : Array Value), off + k + l.length ≤ arr.size →
    ((l.zipIdx k).foldl (fun cs (x : Value × Nat) => cs.setIfInBounds (off + x.2) x.1) arr).toList = splice arr.toList (off + k) l
  | [], k, arr, h => by simp [splice]
  | v :: r, k, arr, h => by
    simp only [List.length_cons] at h
    rw [List.zipIdx_cons, List.foldl_cons, fold_splice off r (k + 1) _ (by simp; omega)]
    unfold splice
    rw [Array.toList_setIfInBounds]
    apply List.ext_getElem?
    intro j
    simp only [List.getElem?_append, List.length_append, List.length_take, List.length_set, Array.length_toList, List.length_cons, List.getElem?_take, List.getElem?_drop, List.getElem?_set]
    have h1 : min (off + (k + 1)) arr.size = off + k + 1 := by omega
    have h2 : min (off + k) arr.size = off + k := by omega
    rw [h1, h2]
    by_cases a1 : j < off + k
    · rw [if_pos (by omega), if_pos (by omega), if_pos (by omega), if_neg (by omega), if_pos (by omega), if_pos (by omega), if_pos a1]
    · by_cases a2 : j = off + k
      · subst a2
        rw [if_pos (by omega), if_pos (by omega), if_pos (by omega), if_pos rfl, if_pos (by omega), if_pos (by omega), if_neg (by omega)]
        simp
      · by_cases a3 : j < off + k + 1 + r.length
        · rw [if_pos (by omega), if_neg (by omega), if_pos (by omega), if_neg (by omega)]
          rw [show j - (off + k) = (j - (off + k + 1)) + 1 by omega, List.getElem?_cons_succ]
        · rw [if_neg (by omega), if_neg (by omega), if_neg (by omega)]
          rw [show off + (k + 1) + r.length + (j - (off + k + 1 + r.length)) = off + k + (r.length + 1) + (j - (off + k + (r.length + 1))) by omega]
def bldD (pl : List (Nat × Nat)) : List DV → List (Nat × DV) → Option (List DV)
  | cs, [] => some cs
  | cs, (i, X) :: r => match pl[i]? with
    | none => none
    | some (off, size) => bif Nat.beq X.cells.length size && Nat.ble (off + size) cs.length && X.cells.all DV.one then bldD pl (splice cs off X.cells) r else none
def repP (K : Nat → Prop) (w : World) : List (Nat × DV) → List (Nat × Value) → Prop
  | [], us => us = []
  | (i, X) :: r, us => ∃ u t, us = (i, u) :: t ∧ X.rep K w u ∧ repP K w r t
theorem fill_bld {K : Nat → Prop} {w : World} {pl : List (Nat × Nat)} {place : Nat → Option (Nat × Nat)} (hp : ∀ i x, pl[i]? = some x → place i = some x) : ∀ (parts : List (Nat × DV)) (us : List (Nat × Value)) (cs ds : List DV) (arr : Array Value),
    repP K w parts us → repL K w cs arr.toList → (∀ u ∈ arr.toList, u.oneCell' = true) → bldD pl cs parts = some ds → ∃ r, Instr.fill place arr us = some r ∧ repL K w ds r.toList ∧ ∀ u ∈ r.toList, u.oneCell' = true
  | [], us, cs, ds, arr, h, hc, h1, hb => by
    unfold repP at h; subst h
    simp only [bldD, Option.some.injEq] at hb; subst hb
    exact ⟨arr, rfl, hc, h1⟩
  | (i, X) :: r, us, cs, ds, arr, h, hc, h1, hb => by
    unfold repP at h
    obtain ⟨u, t, rfl, hX, ht⟩ := h
    unfold bldD at hb
    cases hpl : pl[i]? with
    | none => simp [hpl] at hb
    | some x =>
      obtain ⟨off, size⟩ := x
      simp only [hpl] at hb
      cases hcond : (Nat.beq X.cells.length size && Nat.ble (off + size) cs.length && X.cells.all DV.one) with
      | false => rw [hcond] at hb; simp at hb
      | true =>
        rw [hcond, cond_true] at hb
        simp only [Bool.and_eq_true, Nat.beq_eq, Nat.ble_eq] at hcond
        obtain ⟨⟨q1, q2⟩, q3⟩ := hcond
        obtain ⟨c1, c2⟩ := cells_rep hX q3
        have hlen : u.cells.toList.length = X.cells.length := repL_length c1
        have hal : arr.toList.length = cs.length := repL_length hc
        have hsz : u.cells.size = size := by rw [← q1, ← hlen]; simp
        have hfs := fold_splice off u.cells.toList 0 arr (by simp only [Array.length_toList] at hlen hal ⊢; omega)
        rw [Nat.add_zero] at hfs
        have hz : (Array.foldl (fun cs (x : Value × Nat) => cs.setIfInBounds (off + x.2) x.1) arr u.cells.zipIdx) = (splice arr.toList off u.cells.toList).toArray := by
          apply Array.ext'
          rw [← Array.foldl_toList, Array.toList_zipIdx, List.toList_toArray]
          exact hfs
        obtain ⟨rr, k1, k2, k3⟩ := fill_bld hp r t (splice cs off X.cells) ds (splice arr.toList off u.cells.toList).toArray ht (by rw [List.toList_toArray]; exact splice_rep off hc c1) (by rw [List.toList_toArray]; exact splice_mem h1 c2) hb
        refine ⟨rr, ?_, k2, k3⟩
        rw [← k1, ← hz]
        show (match place i with
          | none => none
          | some (off, size) => if u.cells.size ≠ size || off + u.cells.size > arr.size then none else Instr.fill place (u.cells.zipIdx.foldl (fun cs (c, j) => cs.setIfInBounds (off + j) c) arr) t) = _
        rw [hp i _ hpl]
        have hcnd : (decide (u.cells.size ≠ size) || decide (off + u.cells.size > arr.size)) = false := by
          have : arr.size = cs.length := by rw [← hal]; simp
          simp [hsz]; omega
        simp only [hcnd, Bool.false_eq_true, if_false]
/-- A struct's or an array's zero cells, and where its parts lie. -/
def stp (P : Program) (t : TypeId) : Option (List Value × List (Nat × Nat)) :=
  match P.info? t with
  | none => none
  | some it => match it.zero, P.underlying t with
    | some z, some (.array n e) => (P.info? e).map fun ie => (z.cells.toList, (List.range n).map fun i => (i * ie.size, ie.size))
    | some z, some (.struct fs) => (fs.toList.mapM (fun f => (P.info? f.type).map fun i => (f.offset, i.size))).map fun pl => (z.cells.toList, pl)
    | _, _ => none
theorem built_rep {P : Program} {K : Nat → Prop} {w : World} {t : TypeId} {zs : List Value} {pl : List (Nat × Nat)} (h : stp P t = some (zs, pl)) (h1 : zs.all Value.oneCell' = true) {parts : List (Nat × DV)} {us : List (Nat × Value)} {ds : List DV} (hr : repP K w parts us)
    (hb : bldD pl (zs.map .v) parts = some ds) : ∃ r, P.built t us = some r ∧ repL K w ds r.toList := by
  unfold stp at h
  cases hi : P.info? t with
  | none => simp [hi] at h
  | some it =>
    cases hz : it.zero with
    | none => cases hu : P.underlying t with
      | none => simp [hi, hz, hu] at h
      | some d => cases d <;> simp [hi, hz, hu] at h
    | some z =>
      cases hu : P.underlying t with
      | none => simp [hi, hz, hu] at h
      | some d =>
        cases d <;> try (simp [hi, hz, hu] at h; done)
        case array n e =>
          cases he : P.info? e with
          | none => simp [hi, hz, hu, he] at h
          | some ie =>
            simp only [hi, hz, hu, he, Option.map_some, Option.some.injEq, Prod.mk.injEq] at h
            obtain ⟨rfl, rfl⟩ := h
            obtain ⟨r, k1, k2, _⟩ := fill_bld (K := K) (w := w) (place := fun i => some (i * ie.size, ie.size)) (by
              intro i x hx
              rw [List.getElem?_map] at hx
              cases hq : (List.range n)[i]? with
              | none => simp [hq] at hx
              | some j =>
                rw [hq] at hx; simp at hx
                have : j = i := by have := List.getElem?_range (show i < n from by have := (List.getElem?_eq_some_iff.1 hq).1; simpa using this); rw [hq] at this; injection this
                subst this; rw [← hx]) parts us _ ds z.cells hr (repL_v _) (List.all_eq_true.1 h1) hb
            exact ⟨r, by simp only [Program.built, hi, hu, hz, he, k1], k2⟩
        case struct fs =>
          cases hm : fs.toList.mapM (fun f => (P.info? f.type).map fun i => (f.offset, i.size)) with
          | none => simp [hi, hz, hu, hm] at h
          | some pls =>
            simp only [hi, hz, hu, hm, Option.map_some, Option.some.injEq, Prod.mk.injEq] at h
            obtain ⟨rfl, rfl⟩ := h
            obtain ⟨r, k1, k2, _⟩ := fill_bld (K := K) (w := w) (place := fun i => pls.toArray[i]?) (by intro i x hx; simpa using hx) parts us _ ds z.cells hr (repL_v _) (List.all_eq_true.1 h1) hb
            exact ⟨r, by simp only [Program.built, hi, hu, hz, hm]; exact k1, k2⟩
def evP (L : Lo) : List (Nat × Operand) → Option (List (Nat × DV))
  | [] => some []
  | (i, x) :: r => match evd L x, evP L r with
    | some X, some l => some ((i, X) :: l)
    | _, _ => none
section
variable {P : Program} {C : Cx} {L : Lo} {Γ : Ga} {d : Nat} {ty : TypeId} {pos : String} {af : Array Edge} {gd : Option (Nat × Bool)}
theorem evP_rep {ρ : Rho} {a : Act} {w : World} (h : RepsAt C ρ L Γ a w) : ∀ {ps : List (Nat × Operand)} {Xs : List (Nat × DV)}, evP L ps = some Xs → repP (KK C.K0 ρ Γ) w Xs (ps.map fun (i, x) => (i, a.eval x))
  | [], Xs, hx => by simp only [evP, Option.some.injEq] at hx; subst hx; simp [repP]
  | (i, x) :: r, Xs, hx => by
    unfold evP at hx
    cases h1 : evd L x with
    | none => simp [h1] at hx
    | some X =>
      cases h2 : evP L r with
      | none => simp [h1, h2] at hx
      | some l =>
        simp only [h1, h2, Option.some.injEq] at hx
        subst hx
        unfold repP
        exact ⟨_, _, rfl, evd_rep h h1, evP_rep h h2⟩
theorem OT.build {t : TypeId} {ps : List (Nat × Operand)} {Xs : List (Nat × DV)} {zs : List Value} {pl : List (Nat × Nat)} {ds : List DV} (hn : Nat.blt d C.n = true) (hx : evP L ps = some Xs) (hs : stp P t = some (zs, pl)) (h1 : zs.all Value.oneCell' = true) (hb : bldD pl (zs.map .v) Xs = some ds) :
    OT P C ⟨some d, .build t ps.toArray, ty, pos, af, gd⟩ L Γ (upd L d (.d (.ag ds))) Γ :=
  OT.value hn (fun g hg => by simp [AV.id] at hg) fun ρ a w h => by
    obtain ⟨r, k1, k2⟩ := built_rep hs h1 (evP_rep h hx) hb
    refine ⟨.agg r, ?_, ?_⟩
    · have := run_build (P := P) w t (ps.toArray.map fun (i, x) => (i, a.eval x)) r (by simpa using k1)
      simp only [execOp, Sem.run_bind, this, Result.andThen_ok, Sem.run_pure]
    · show DV.rep _ _ _ _
      unfold DV.rep
      exact ⟨r.toList, by simp, k2⟩
end
end Go.Proofs.Ythbcbfghfhecjaa.Pl
