/-
  A logic of walks: addresses, loads, stores, new blocks.
-/
import Derived.Test.YthbcbfghfhecjaaPb
import Derived.Laws.OwnMore
namespace Go.Proofs.Ythbcbfghfhecjaa.Pl
set_option linter.unusedVariables false
set_option linter.unusedSimpArgs false
open Go.RowKit

/-! What a type is. -/
def tyk (P : Program) (t : TypeId) : Option (Option Nat) :=
  match P.underlying t with
  | some (.struct _) | some (.array _ _) => (P.info? t).map fun i => some i.size
  | some _ => some none
  | none => none
def fo (P : Program) (s i : Nat) : Option Nat :=
  match P.underlying s with
  | some (.struct fs) => match fs[i]? with
    | some f => match P.info? f.type with
      | some j => if j.size = 0 then none else some f.offset
      | none => none
    | none => none
  | _ => none
def elt (P : Program) (t : TypeId) : Option (TypeId × Nat) :=
  match P.underlying t with
  | some (.slice e) => (P.info? e).map fun i => (e, i.size)
  | _ => none
def arr (P : Program) (t : TypeId) : Option (Nat × Nat) :=
  match P.underlying t with
  | some (.array n e) => (P.info? e).map fun i => (n, i.size)
  | _ => none
def zc (P : Program) (t : TypeId) : Option (List Value) :=
  match P.info? t with
  | some i => i.zero.map fun z => z.cells.toList
  | none => none
def szt (P : Program) (t : TypeId) : Option Nat := (P.info? t).map (·.size)
section
variable {P : Program}
theorem tyk_one {t : TypeId} (h : tyk P t = some none) (w : World) : (isAgg t).run P w = .ok false w := by
  unfold tyk at h
  cases hu : P.underlying t with
  | none => simp [hu] at h
  | some d => cases d <;> simp [hu] at h <;> simp [isAgg, run_underlying hu]
theorem tyk_many {t : TypeId} {n : Nat} (h : tyk P t = some (some n)) (w : World) : (isAgg t).run P w = .ok true w ∧ (sizeOf t).run P w = .ok n w := by
  unfold tyk at h
  cases hu : P.underlying t with
  | none => simp [hu] at h
  | some d =>
    cases hi : P.info? t with
    | none => cases d <;> simp [hu, hi] at h
    | some i => cases d <;> simp [hu, hi] at h <;> (subst h; simp [isAgg, run_underlying hu, sizeOf, typeInfo, hi])
theorem szt_run {t : TypeId} {n : Nat} (h : szt P t = some n) (w : World) : (sizeOf t).run P w = .ok n w := by
  unfold szt at h
  cases hi : P.info? t with
  | none => simp [hi] at h
  | some i => simp [hi] at h; subst h; simp [sizeOf, typeInfo, hi]
theorem fo_run {s i k : Nat} (h : fo P s i = some k) (b o : Nat) (w : World) : (Instr.fieldAt s (.pointer (some ⟨b, o, none⟩)) i).run P w = .ok (.pointer (some ⟨b, o + k, none⟩)) w := by
  unfold fo at h
  cases hu : P.underlying s with
  | none => simp [hu] at h
  | some d =>
    cases d <;> simp [hu] at h
    rename_i fs
    cases hf : fs[i]? with
    | none => simp [hf] at h
    | some f =>
      simp [hf] at h
      cases hi : P.info? f.type with
      | none => simp [hi] at h
      | some j =>
        simp [hi] at h
        obtain ⟨h0, rfl⟩ := h
        simp [Instr.fieldAt, run_underlying hu, hf, Instr.sureAddr, fieldPlace, sizeOf, typeInfo, hi, h0, addr_add]
theorem elt_parts {t e n : Nat} (h : elt P t = some (e, n)) : P.underlying t = some (.slice e) ∧ ∃ i, P.info? e = some i ∧ i.size = n := by
  unfold elt at h
  cases hu : P.underlying t with
  | none => simp [hu] at h
  | some d =>
    cases d <;> simp [hu] at h
    obtain ⟨i, hi, rfl, hs⟩ := h
    exact ⟨rfl, i, hi, hs⟩
theorem arr_parts {t n m : Nat} (h : arr P t = some (n, m)) : ∃ e i, P.underlying t = some (.array n e) ∧ P.info? e = some i ∧ i.size = m := by
  unfold arr at h
  cases hu : P.underlying t with
  | none => simp [hu] at h
  | some d =>
    cases d <;> simp [hu] at h
    obtain ⟨i, hi, rfl, hs⟩ := h
    exact ⟨_, i, rfl, hi, hs⟩
theorem zc_run {t : TypeId} {zs : List Value} (h : zc P t = some zs) (w : World) : ∃ z, (zeroValue t).run P w = .ok z w ∧ z.cells.toList = zs := by
  unfold zc at h
  cases hi : P.info? t with
  | none => simp [hi] at h
  | some i =>
    simp [hi] at h
    obtain ⟨z, hz, rfl⟩ := h
    exact ⟨z, by simp [zeroValue, typeInfo, hi, hz], rfl⟩
end

section
variable {P : Program} {C : Cx} {L : Lo} {Γ : Ga} {d : Nat} {ty : TypeId} {pos : String} {af : Array Edge} {gd : Option (Nat × Bool)}
/-- The cells of a block of one's own. -/
def AO.cells : AO → Option (List DV)
  | .box _ cs => some cs
  | .row _ _ cs => some cs
  | .mbox _ _ cs => some cs
  | .mrow _ _ _ cs => some cs
  | .dead => none
theorem own_block {ρ : Rho} {a : Act} {w : World} (h : RepsAt C ρ L Γ a w) {g : Nat} {o : AO} {cs : List DV} (hg : Γ g = some o) (ho : o.cells = some cs) : ∃ ob, ρ g = some ob := by
  obtain ⟨ob, h1, _⟩ := h.obj g o hg (by rintro rfl; simp [AO.cells] at ho)
  exact ⟨ob, h1⟩
/-! Addresses. -/
theorem OT.fieldp {s i k g off : Nat} {x : Operand} (hn : Nat.blt d C.n = true) (hx : ev L x = some (.ptr g off)) {o : AO} {cs : List DV} (hg : Γ g = some o) (ho : o.cells = some cs) (hf : fo P s i = some k) :
    OT P C ⟨some d, .fieldAddr s x i, ty, pos, af, gd⟩ L Γ (upd L d (.ptr g (off + k))) Γ :=
  OT.value hn (fun g' hg' ρ a w h => ev_ment h hx hg') fun ρ a w h => by
    obtain ⟨ob, h1⟩ := own_block h hg ho
    obtain ⟨b, rfl, h2⟩ := ev_rep h hx ob h1
    exact ⟨.pointer (some ⟨b, off + k, none⟩), by simp only [execOp, h2, Sem.run_bind, fo_run hf, Result.andThen_ok, Sem.run_pure], fun ob' h3 => by rw [h1] at h3; cases h3; exact ⟨b, rfl, rfl⟩⟩
theorem OT.fielde {s i k : Nat} {x : Operand} {A : AV} {cs : List DV} (hn : Nat.blt d C.n = true) (hx : ev L x = some A) (hA : A.dv = some (.el cs)) (hf : fo P s i = some k) :
    OT P C ⟨some d, .fieldAddr s x i, ty, pos, af, gd⟩ L Γ (upd L d (A.re (.el (cs.drop k)))) Γ :=
  OT.value hn (fun g hg => absurd hg (AV.re_id A _ g)) fun ρ a w h => by
    have h1 := ev_rep h hx
    have h2 := dv_rep h1 hA
    unfold DV.rep at h2
    obtain ⟨b, o, hv, _⟩ := h2
    refine ⟨.pointer (some ⟨b, o + k, none⟩), by simp only [execOp, hv, Sem.run_bind, fo_run hf, Result.andThen_ok, Sem.run_pure], AV.re_rep h1 hA fun J hJ => ?_⟩
    unfold DV.rep at hJ ⊢
    obtain ⟨b', o', hv', hb', hr'⟩ := hJ
    rw [hv] at hv'
    simp at hv'
    obtain ⟨rfl, rfl⟩ := hv'
    exact ⟨b, o + k, rfl, hb'.imp (fun e => by simp [e]) id, repAt_drop k hr'⟩
/-- An element of a slice that reads as this list. -/
abbrev slT {α : Type} (enc : α → List DV) (sz : Nat) (xs : List α) : DV := .sl sz xs.length (xs.flatMap enc)
theorem flat_length {α : Type} {enc : α → List DV} {sz : Nat} (h : ∀ x, (enc x).length = sz) (xs : List α) : (xs.flatMap enc).length = xs.length * sz := by
  induction xs with
  | nil => simp
  | cons x r ih => rw [List.flatMap_cons, List.length_append, ih, h, List.length_cons, Nat.succ_mul, Nat.add_comm]
theorem flat_drop {α : Type} {enc : α → List DV} {sz : Nat} (h : ∀ x, (enc x).length = sz) : ∀ (xs : List α) (n : Nat), (xs.flatMap enc).drop (n * sz) = (xs.drop n).flatMap enc
  | [], n => by simp
  | x :: r, 0 => by simp
  | x :: r, n + 1 => by
    rw [List.flatMap_cons, List.drop_succ_cons, ← flat_drop h r n, Nat.succ_mul, Nat.add_comm, ← List.drop_drop]
    rw [show (enc x ++ List.flatMap enc r).drop sz = List.flatMap enc r from by rw [← h x]; exact List.drop_left]
theorem flat_take {α : Type} {enc : α → List DV} {sz : Nat} (h : ∀ x, (enc x).length = sz) : ∀ (xs : List α) (n : Nat), (xs.flatMap enc).take (n * sz) = (xs.take n).flatMap enc
  | [], n => by simp
  | x :: r, 0 => by simp
  | x :: r, n + 1 => by
    rw [List.flatMap_cons, List.take_succ_cons, List.flatMap_cons, ← flat_take h r n, Nat.succ_mul, Nat.add_comm, ← h x]
    rw [List.take_append, List.take_of_length_le (by omega)]
    congr 2; omega
theorem OT.idx {α : Type} {enc : α → List DV} {sz : Nat} {xs : List α} {t e : TypeId} {x y : Operand} {A : AV} {k : IntKind} {i : Int} (v : α) (hn : Nat.blt d C.n = true) (hx : ev L x = some A) (hA : A.dv = some (slT enc sz xs)) (hy : evv L y = some (.int k i))
    (ht : elt P t = some (e, sz)) (he : ∀ z, (enc z).length = sz) (h0 : 0 ≤ i) (hv : xs[i.toNat]? = some v) :
    OT P C ⟨some d, .indexAddr t x y, ty, pos, af, gd⟩ L Γ (upd L d (A.re (.el (enc v)))) Γ :=
  OT.value hn (fun g hg => absurd hg (AV.re_id A _ g)) fun ρ a w h => by
    have h1 := ev_rep h hx
    have h2 := dv_rep h1 hA
    have hlt : i.toNat < xs.length := (List.getElem?_eq_some_iff.1 hv).1
    have hv2 : xs[i.toNat] = v := by have := List.getElem?_eq_getElem hlt; rw [hv] at this; injection this with h; exact h.symm
    unfold DV.rep at h2
    rcases h2 with ⟨_, h3, _⟩ | ⟨b, o, c, hs, hc, hm, hl, hb, hr⟩
    · omega
    · obtain ⟨hu, j, hi, hj⟩ := elt_parts ht
      refine ⟨.pointer (some ⟨b, o + i.toNat * sz, none⟩), ?_, AV.re_rep h1 hA fun J hJ => ?_⟩
      · have hi2 : 0 ≤ i ∧ i < (xs.length : Int) := ⟨h0, by omega⟩
        simp [execOp, hs, evv_eval h hy, Instr.indexAt, run_underlying hu, asIntOf, hi2, sizeOf, typeInfo, hi, hj, addr_add]
      · unfold DV.rep at hJ ⊢
        rcases hJ with ⟨_, h3, _⟩ | ⟨b', o', c', hs', hc', hm', hl', hb', hr'⟩
        · omega
        · rw [hs] at hs'
          simp at hs'
          obtain ⟨⟨rfl, rfl⟩, rfl⟩ := hs'
          refine ⟨b, _, rfl, ?_, ?_⟩
          · rcases hb' with hb' | hb'
            · left
              have hz : (xs.flatMap enc).length = 0 := by rw [hb']; rfl
              rw [flat_length he] at hz
              have : sz = 0 := by
                rcases Nat.mul_eq_zero.1 hz with h | h
                · omega
                · exact h
              exact List.eq_nil_of_length_eq_zero (by rw [he, this])
            · exact .inr hb'
          · have hd := repAt_drop (i.toNat * sz) hr'
            rw [flat_drop he, ← List.getElem_cons_drop hlt, hv2, List.flatMap_cons] at hd
            have htk := repAt_take (enc v).length hd
            rw [List.take_left] at htk
            exact htk
/-- An element of an array, or of a row, of one's own. -/
theorem OT.idxp {t n sz g off : Nat} {x y : Operand} {k : IntKind} {i : Int} (hn : Nat.blt d C.n = true) (hx : ev L x = some (.ptr g off)) (hy : evv L y = some (.int k i)) {o : AO} {cs : List DV} (hg : Γ g = some o) (ho : o.cells = some cs) (ht : arr P t = some (n, sz)) (h0 : 0 ≤ i) (h1 : i < n) :
    OT P C ⟨some d, .indexAddr t x y, ty, pos, af, gd⟩ L Γ (upd L d (.ptr g (off + i.toNat * sz))) Γ :=
  OT.value hn (fun g' hg' ρ a w h => ev_ment h hx hg') fun ρ a w h => by
    obtain ⟨ob, h3⟩ := own_block h hg ho
    obtain ⟨b, rfl, h2⟩ := ev_rep h hx ob h3
    obtain ⟨e, j, hu, hi, hj⟩ := arr_parts ht
    have hi2 : 0 ≤ i ∧ i < (n : Int) := ⟨h0, h1⟩
    exact ⟨.pointer (some ⟨b, off + i.toNat * sz, none⟩), by simp [execOp, h2, evv_eval h hy, Instr.indexAt, run_underlying hu, asIntOf, hi2, sizeOf, typeInfo, hi, hj, addr_add, Instr.sureAddr], fun ob' h5 => by rw [h3] at h5; cases h5; exact ⟨b, rfl, rfl⟩⟩
theorem OT.idxo {t e n sz g : Nat} {x y : Operand} {k : IntKind} {i : Int} (hn : Nat.blt d C.n = true) (hx : ev L x = some (.ow g n sz)) (hy : evv L y = some (.int k i)) {o : AO} {cs : List DV} (hg : Γ g = some o) (ho : o.cells = some cs) (ht : elt P t = some (e, sz)) (h0 : 0 ≤ i) (h1 : i < n) :
    OT P C ⟨some d, .indexAddr t x y, ty, pos, af, gd⟩ L Γ (upd L d (.ptr g (i.toNat * sz))) Γ :=
  OT.value hn (fun g' hg' ρ a w h => ev_ment h hx hg') fun ρ a w h => by
    obtain ⟨ob, h3⟩ := own_block h hg ho
    rcases ev_rep h hx ob h3 with ⟨_, _, h2⟩ | ⟨b, c, rfl, h2, _⟩
    · omega
    · obtain ⟨hu, j, hi, hj⟩ := elt_parts ht
      have hi2 : 0 ≤ i ∧ i < (n : Int) := ⟨h0, h1⟩
      exact ⟨.pointer (some ⟨b, i.toNat * sz, none⟩), by simp [execOp, h2, evv_eval h hy, Instr.indexAt, run_underlying hu, asIntOf, hi2, sizeOf, typeInfo, hi, hj, addr_add], fun ob' h5 => by rw [h3] at h5; cases h5; exact ⟨b, rfl, rfl⟩⟩

/-! Loads. -/
theorem add_at (b o j : Nat) : (⟨b, o, none⟩ : Addr).add j = ⟨b, o + j, none⟩ := addr_add b o j
theorem load_one {t : TypeId} {b o : Nat} {u : Value} {w : World} (ht : tyk P t = some none) (h : w.cell? ⟨b, o, none⟩ = some u) : (Instr.loadAt t (.pointer (some ⟨b, o, none⟩))).run P w = .ok u w := by
  simp [Instr.loadAt, Instr.sureAddr, loadVar, tyk_one ht, h]
theorem load_many {t : TypeId} {b o : Nat} {us : List Value} {w : World} (ht : tyk P t = some (some us.length)) (h : ∀ j u, us[j]? = some u → w.cell? ⟨b, o + j, none⟩ = some u) : (Instr.loadAt t (.pointer (some ⟨b, o, none⟩))).run P w = .ok (.agg us.toArray) w := by
  have hl := run_loadCells_list (P := P) w ⟨b, o, none⟩ us (fun j u hj => by rw [add_at]; exact h j u hj)
  simp [Instr.loadAt, Instr.sureAddr, loadVar, (tyk_many ht w).1, (tyk_many ht w).2, hl]
theorem obj_cells {K : Nat → Prop} {w : World} {T : TypeId} {cs : List DV} {ob : Option Nat} (h : (AO.box T cs).rep K w ob) : ∃ b, ob = some b ∧ repAt K w cs b 0 := by
  obtain ⟨b, us, rfl, h1, h2, h3⟩ := h
  refine ⟨b, rfl, repAt_of_cells h2 (fun j u hj => ?_) h3⟩
  rw [Nat.zero_add, cell_of_row w b j _ T _ h1]
  simpa using hj
theorem row_cells {K : Nat → Prop} {w : World} {T : TypeId} {sz : Nat} {cs : List DV} {b : Nat} (h : (AO.row T sz cs).rep K w (some b)) : repAt K w cs b 0 := by
  rcases h with ⟨h, _⟩ | ⟨b', us, cap, h0, h1, h2, h3, h4, h5, h6⟩
  · cases h
  · cases h0
    refine repAt_of_cells h5 (fun j u hj => ?_) h6
    rw [Nat.zero_add, cell_of_row w b j _ T _ h1]
    rw [List.getElem?_take] at hj
    split at hj
    · simpa using hj
    · cases hj
theorem own_cells {ρ : Rho} {a : Act} {w : World} (h : RepsAt C ρ L Γ a w) {g b : Nat} {o : AO} {cs : List DV} (hg : Γ g = some o) (ho : o.cells = some cs) (hb : ρ g = some (some b)) : repAt (KK C.K0 ρ Γ) w cs b 0 := by
  have hd : o ≠ .dead := by rintro rfl; simp [AO.cells] at ho
  obtain ⟨ob, h1, h2⟩ := h.obj g o hg hd
  rw [hb] at h1
  cases h1
  cases o with
  | dead => exact absurd rfl hd
  | box T cs' => simp [AO.cells] at ho; subst ho; obtain ⟨b', e, h3⟩ := obj_cells h2; cases e; exact h3
  | row T sz cs' => simp [AO.cells] at ho; subst ho; exact row_cells h2
  | mbox _ T cs' => simp [AO.cells] at ho; subst ho; obtain ⟨b', e, h3⟩ := obj_cells (T := T) h2; cases e; exact h3
  | mrow _ T sz cs' => simp [AO.cells] at ho; subst ho; exact row_cells (T := T) (sz := sz) h2
theorem OT.ldp {t g off : Nat} {x : Operand} {o : AO} {cs : List DV} {X : DV} (hn : Nat.blt d C.n = true) (hx : ev L x = some (.ptr g off)) (hg : Γ g = some o) (ho : o.cells = some cs) (hX : cs[off]? = some X) (ht : tyk P t = some none) :
    OT P C ⟨some d, .load t x, ty, pos, af, gd⟩ L Γ (upd L d (.d X)) Γ :=
  OT.value hn (fun g hg => by simp [AV.id] at hg) fun ρ a w h => by
    obtain ⟨ob, h1⟩ := own_block h hg ho
    obtain ⟨b, rfl, h2⟩ := ev_rep h hx ob h1
    obtain ⟨u, h3, h4, h5⟩ := repAt_get (own_cells h hg ho h1) hX
    rw [Nat.zero_add] at h3
    exact ⟨u, by simp only [execOp, h2, Sem.run_bind, load_one ht h3, Result.andThen_ok, Sem.run_pure], h5⟩
theorem OT.ldpm {t g off n : Nat} {x : Operand} {o : AO} {cs ds : List DV} (hn : Nat.blt d C.n = true) (hx : ev L x = some (.ptr g off)) (hg : Γ g = some o) (ho : o.cells = some cs) (hds : (cs.drop off).take n = ds) (hl : ds.length = n) (ht : tyk P t = some (some n)) :
    OT P C ⟨some d, .load t x, ty, pos, af, gd⟩ L Γ (upd L d (.d (.ag ds))) Γ :=
  OT.value hn (fun g hg => by simp [AV.id] at hg) fun ρ a w h => by
    obtain ⟨ob, h1⟩ := own_block h hg ho
    obtain ⟨b, rfl, h2⟩ := ev_rep h hx ob h1
    have h3 := repAt_take n (repAt_drop off (own_cells h hg ho h1))
    rw [hds, Nat.zero_add] at h3
    obtain ⟨us, h4, h5, h6⟩ := repAt_vals h3
    have hlen := repL_length h4
    refine ⟨.agg us.toArray, by simp only [execOp, h2, Sem.run_bind, load_many (us := us) (by rw [hlen, hl]; exact ht) h5, Result.andThen_ok, Sem.run_pure], ?_⟩
    show DV.rep _ _ _ _
    unfold DV.rep
    exact ⟨us, rfl, h4⟩
theorem OT.lde {t : Nat} {x : Operand} {A : AV} {cs : List DV} {X : DV} (hn : Nat.blt d C.n = true) (hx : ev L x = some A) (hA : A.dv = some (.el cs)) (hX : cs[0]? = some X) (ht : tyk P t = some none) :
    OT P C ⟨some d, .load t x, ty, pos, af, gd⟩ L Γ (upd L d (A.re X)) Γ :=
  OT.value hn (fun g hg => absurd hg (AV.re_id A _ g)) fun ρ a w h => by
    have h1 := ev_rep h hx
    have h2 := dv_rep h1 hA
    unfold DV.rep at h2
    obtain ⟨b, o, hv, hb, hr⟩ := h2
    obtain ⟨u, h3, h4, h5⟩ := repAt_get hr hX
    rw [Nat.add_zero] at h3
    refine ⟨u, by simp only [execOp, hv, Sem.run_bind, load_one ht h3, Result.andThen_ok, Sem.run_pure], AV.re_rep h1 hA fun J hJ => ?_⟩
    unfold DV.rep at hJ
    obtain ⟨b', o', hv', hb', hr'⟩ := hJ
    rw [hv] at hv'; simp at hv'; obtain ⟨rfl, rfl⟩ := hv'
    obtain ⟨u', k3, k4, k5⟩ := repAt_get hr' hX
    rw [Nat.add_zero, h3] at k3; cases k3; exact k5
theorem OT.ldem {t n : Nat} {x : Operand} {A : AV} {cs ds : List DV} (hn : Nat.blt d C.n = true) (hx : ev L x = some A) (hA : A.dv = some (.el cs)) (hds : cs.take n = ds) (hl : ds.length = n) (ht : tyk P t = some (some n)) :
    OT P C ⟨some d, .load t x, ty, pos, af, gd⟩ L Γ (upd L d (A.re (.ag ds))) Γ :=
  OT.value hn (fun g hg => absurd hg (AV.re_id A _ g)) fun ρ a w h => by
    have h1 := ev_rep h hx
    have h2 := dv_rep h1 hA
    unfold DV.rep at h2
    obtain ⟨b, o, hv, hb, hr⟩ := h2
    have h3 := repAt_take n hr
    rw [hds] at h3
    obtain ⟨us, h4, h5, h6⟩ := repAt_vals h3
    have hlen := repL_length h4
    refine ⟨.agg us.toArray, by simp only [execOp, hv, Sem.run_bind, load_many (us := us) (by rw [hlen, hl]; exact ht) h5, Result.andThen_ok, Sem.run_pure], AV.re_rep h1 hA fun J hJ => ?_⟩
    unfold DV.rep at hJ ⊢
    obtain ⟨b', o', hv', hb', hr'⟩ := hJ
    rw [hv] at hv'; simp at hv'; obtain ⟨rfl, rfl⟩ := hv'
    have k3 := repAt_take n hr'
    rw [hds] at k3
    obtain ⟨us', k4, k5, k6⟩ := repAt_vals k3
    have hlen' := repL_length k4
    have : us = us' := by
      apply List.ext_getElem?
      intro j
      by_cases hj : j < ds.length
      · have e1 := h5 j us[j] (by simp [List.getElem?_eq_getElem (show j < us.length by omega)])
        have e2 := k5 j us'[j] (by simp [List.getElem?_eq_getElem (show j < us'.length by omega)])
        rw [e1] at e2
        injection e2 with e2
        rw [List.getElem?_eq_getElem (show j < us.length by omega), List.getElem?_eq_getElem (show j < us'.length by omega), e2]
      · rw [List.getElem?_eq_none (by omega), List.getElem?_eq_none (by omega)]
    subst this
    exact ⟨us, rfl, k4⟩
end
end Go.Proofs.Ythbcbfghfhecjaa.Pl
