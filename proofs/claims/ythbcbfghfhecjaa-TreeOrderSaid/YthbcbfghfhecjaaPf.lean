/-
  A logic of walks: slices: their lengths, parts, what is appended, copied, converted.
-/
import Derived.Test.YthbcbfghfhecjaaPe
import Derived.Maps.AppendAt
namespace Go.Proofs.Ythbcbfghfhecjaa.Pl
set_option linter.unusedVariables false
set_option linter.unusedSimpArgs false
open Go.RowKit

/-- What a slot reads as, blocks of one's own among it. -/
def rdv (Γ : Ga) : AV → Option DV
  | .d X => some X
  | .f X => some X
  | .bs g off n sz => match (Γ g).bind AO.cells with
    | some cs => bif Nat.ble (off + n * sz) cs.length then some (.sl sz n ((cs.drop off).take (n * sz))) else none
    | none => none
  | .ow g n sz => match (Γ g).bind AO.cells with
    | some cs => some (.sl sz n cs)
    | none => none
  | .ptr g off => match (Γ g).bind AO.cells with
    | some cs => some (.el (cs.drop off))
    | none => none
def evr (L : Lo) (Γ : Ga) (x : Operand) : Option DV := (ev L x).bind (rdv Γ)
def noK : Nat → Prop := fun _ => False
theorem rep_noK {K : Nat → Prop} {w : World} {X : DV} {u : Value} (h : X.rep K w u) : X.rep noK w u := DV.rep_mono (fun b hb _ => ⟨rfl, hb, fun x => x⟩) X u h
theorem at_noK {K : Nat → Prop} {w : World} {cs : List DV} {b o : Nat} (hb : b < w.heap.size) (h : repAt K w cs b o) : repAt noK w cs b o := by
  obtain ⟨us, k1, k2, k3⟩ := repAt_vals h
  exact repAt_of_cells (repL_mono (fun b hb _ => ⟨rfl, hb, fun x => x⟩) _ _ k1) k2 k3
section
variable {P : Program} {C : Cx} {L : Lo} {Γ : Ga} {d : Nat} {ty : TypeId} {pos : String} {af : Array Edge} {gd : Option (Nat × Bool)}
theorem bind_cells {Γ : Ga} {g : Nat} {cs : List DV} (h : (Γ g).bind AO.cells = some cs) : ∃ o, Γ g = some o ∧ o.cells = some cs := by
  cases hg : Γ g with
  | none => simp [hg] at h
  | some o => exact ⟨o, rfl, by simpa [hg] using h⟩
theorem row_len {K : Nat → Prop} {w : World} {o : AO} {cs : List DV} {b : Nat} (ho : o.cells = some cs) (h : o.rep K w (some b)) : cs.length ≤ bsz w b := by
  cases o with
  | dead => simp [AO.cells] at ho
  | box T cs' =>
    simp only [AO.cells, Option.some.injEq] at ho; subst ho
    obtain ⟨b', us, e, h1, h2, h3⟩ := h
    cases e
    unfold bsz; rw [h1]; simp [repL_length h2]
  | row T sz cs' =>
    simp only [AO.cells, Option.some.injEq] at ho; subst ho
    rcases h with ⟨e, _⟩ | ⟨b', us, cap, e, h1, h2, h3, h4, h5, h6⟩
    · cases e
    · cases e; unfold bsz; rw [h1]; simpa using h4
  | mbox _ T cs' =>
    simp only [AO.cells, Option.some.injEq] at ho; subst ho
    obtain ⟨b', us, e, h1, h2, h3⟩ := h
    cases e
    unfold bsz; rw [h1]; simp [repL_length h2]
  | mrow _ T sz cs' =>
    simp only [AO.cells, Option.some.injEq] at ho; subst ho
    rcases h with ⟨e, _⟩ | ⟨b', us, cap, e, h1, h2, h3, h4, h5, h6⟩
    · cases e
    · cases e; unfold bsz; rw [h1]; simpa using h4
theorem rdv_rep {ρ : Rho} {a : Act} {w : World} (h : RepsAt C ρ L Γ a w) {A : AV} {X : DV} {u : Value} (hA : A.rep ρ (KK C.K0 ρ Γ) C.w0.heap.size w u) (hx : rdv Γ A = some X)
    (hl : ∀ g n sz, A = .ow g n sz → ∀ sz' n' cs, X = .sl sz' n' cs → cs.length = n * sz) : X.rep noK w u := by
  cases A with
  | d Y => simp only [rdv, Option.some.injEq] at hx; subst hx; exact rep_noK hA
  | f Y => simp only [rdv, Option.some.injEq] at hx; subst hx; exact rep_noK hA
  | ptr g off =>
    simp only [rdv] at hx
    cases hc : (Γ g).bind AO.cells with
    | none => simp [hc] at hx
    | some cs =>
      simp only [hc, Option.some.injEq] at hx; subst hx
      obtain ⟨o, hg, ho⟩ := bind_cells hc
      obtain ⟨ob, h1⟩ := own_block h hg ho
      obtain ⟨b, rfl, rfl⟩ := hA ob h1
      have h2 := own_cells h hg ho h1
      have h3 := repAt_drop off h2
      rw [Nat.zero_add] at h3
      unfold DV.rep
      exact ⟨b, off, rfl, .inr ⟨h.lt g b h1, fun x => x⟩, at_noK (h.lt g b h1) h3⟩
  | bs g off n sz =>
    simp only [rdv] at hx
    cases hc : (Γ g).bind AO.cells with
    | none => simp [hc] at hx
    | some cs =>
      simp only [hc] at hx
      cases hle : Nat.ble (off + n * sz) cs.length with
      | false => simp [hle] at hx
      | true =>
        simp only [hle, cond_true, Option.some.injEq] at hx; subst hx
        have hle' : off + n * sz ≤ cs.length := by simpa using hle
        obtain ⟨o, hg, ho⟩ := bind_cells hc
        obtain ⟨ob, h1⟩ := own_block h hg ho
        obtain ⟨b, c, rfl, rfl, k2, k3, k4⟩ := hA ob h1
        have h2 := own_cells h hg ho h1
        have h3 := repAt_take (n * sz) (repAt_drop off h2)
        rw [Nat.zero_add] at h3
        unfold DV.rep
        exact .inr ⟨b, off, c, rfl, k2, k3, by simp; omega, .inr ⟨h.lt g b h1, fun x => x⟩, at_noK (h.lt g b h1) h3⟩
  | ow g n sz =>
    simp only [rdv] at hx
    cases hc : (Γ g).bind AO.cells with
    | none => simp [hc] at hx
    | some cs =>
      simp only [hc, Option.some.injEq] at hx; subst hx
      have hlen := hl g n sz rfl sz n cs rfl
      obtain ⟨o, hg, ho⟩ := bind_cells hc
      obtain ⟨ob, h1⟩ := own_block h hg ho
      rcases hA ob h1 with ⟨rfl, rfl, rfl⟩ | ⟨b, c, rfl, rfl, k2, k3, k4⟩
      · unfold DV.rep
        refine .inl ⟨rfl, rfl, ?_⟩
        exact List.eq_nil_of_length_eq_zero (by rw [hlen]; simp)
      · have h2 := own_cells h hg ho h1
        unfold DV.rep
        exact .inr ⟨b, 0, c, rfl, k2, k3, hlen, .inr ⟨h.lt g b h1, fun x => x⟩, at_noK (h.lt g b h1) h2⟩
/-- The length of what is read fits (for rows that grow: their cells are all that there are). -/
def okr (Γ : Ga) : AV → Prop
  | .ow g n sz => ∀ cs, (Γ g).bind AO.cells = some cs → cs.length = n * sz
  | _ => True
theorem evr_rep {ρ : Rho} {a : Act} {w : World} (h : RepsAt C ρ L Γ a w) {x : Operand} {A : AV} {X : DV} (hA : ev L x = some A) (hx : rdv Γ A = some X) (hl : okr Γ A) : X.rep noK w (a.eval x) :=
  rdv_rep h (ev_rep h hA) hx fun g n sz e sz' n' cs e' => by
    subst e
    simp only [rdv] at hx
    cases hc : (Γ g).bind AO.cells with
    | none => simp [hc] at hx
    | some cs' =>
      simp only [hc, Option.some.injEq] at hx
      rw [e'] at hx
      cases hx
      exact hl cs hc

/-! len. -/
def lenV (P : Program) (t : TypeId) : AV → Option Int
  | .d (.sl _ n _) => some n
  | .f (.sl _ n _) => some n
  | .bs _ _ n _ => some n
  | .ow _ n _ => some n
  | .d (.v (.string s)) => some s.size
  | .f (.v (.string s)) => some s.size
  | .d (.v (.slice none 0 0)) => some 0
  | .f (.v (.slice none 0 0)) => some 0
  | _ => none
def isSl (P : Program) (t : TypeId) : Option Bool := match P.underlying t with | some (.slice _) => some true | some .string => some false | _ => none
theorem len_sl {t : TypeId} {c n : Nat} {ad : Option Addr} {w : World} (h : isSl P t = some true) : (Builtin.len_ #[t] ty #[.slice ad n c]).run P w = .ok (.int .i64 n) w := by
  unfold isSl at h
  cases hu : P.underlying t with
  | none => simp [hu] at h
  | some d => cases d <;> simp [hu] at h; simp [Builtin.len_, run_underlying hu, goInt]
theorem len_str {t : TypeId} {s : ByteArray} {w : World} (h : isSl P t = some false) : (Builtin.len_ #[t] ty #[.string s]).run P w = .ok (.int .i64 s.size) w := by
  unfold isSl at h
  cases hu : P.underlying t with
  | none => simp [hu] at h
  | some d => cases d <;> simp [hu] at h; simp [Builtin.len_, run_underlying hu, goInt]
theorem OT.len {t : TypeId} {x : Operand} {A : AV} {n : Nat} (hn : Nat.blt d C.n = true) (hx : ev L x = some A) (hA : ∃ sz cs, A.dv = some (.sl sz n cs)) (ht : isSl P t = some true) :
    OT P C ⟨some d, .call { callee := .builtin .len, args := #[x], argTypes := #[t] }, ty, pos, af, gd⟩ L Γ (upd L d (.f (.v (.int .i64 n)))) Γ :=
  OT.value hn (fun g hg => by simp [AV.id] at hg) fun ρ a w h => by
    obtain ⟨sz, cs, hA⟩ := hA
    have h2 := dv_rep (ev_rep h hx) hA
    unfold DV.rep at h2
    have : ∃ ad c, a.eval x = .slice ad n c := by
      rcases h2 with ⟨h2, rfl, _⟩ | ⟨b, o, c, h2, _⟩
      · exact ⟨_, _, h2⟩
      · exact ⟨_, _, h2⟩
    obtain ⟨ad, c, he⟩ := this
    exact ⟨_, by simp [execOp, resolve, invoke, builtin, he, len_sl ht], rfl⟩
theorem OT.leno {t : TypeId} {x : Operand} {g n sz : Nat} {cs : List DV} (hn : Nat.blt d C.n = true) (hx : ev L x = some (.ow g n sz)) (hg : (Γ g).bind AO.cells = some cs) (ht : isSl P t = some true) :
    OT P C ⟨some d, .call { callee := .builtin .len, args := #[x], argTypes := #[t] }, ty, pos, af, gd⟩ L Γ (upd L d (.f (.v (.int .i64 n)))) Γ :=
  OT.value hn (fun g hg => by simp [AV.id] at hg) fun ρ a w h => by
    obtain ⟨o, hg, ho⟩ := bind_cells hg
    obtain ⟨ob, h1⟩ := own_block h hg ho
    have : ∃ ad c, a.eval x = .slice ad n c := by
      rcases ev_rep h hx ob h1 with ⟨_, h2, rfl⟩ | ⟨b, c, _, h2, _⟩
      · exact ⟨_, _, h2⟩
      · exact ⟨_, _, h2⟩
    obtain ⟨ad, c, he⟩ := this
    exact ⟨_, by simp [execOp, resolve, invoke, builtin, he, len_sl ht], rfl⟩
theorem OT.lens {t : TypeId} {x : Operand} {l : List UInt8} (hn : Nat.blt d C.n = true) (hx : evv L x = some (.string ⟨⟨l⟩⟩)) (ht : isSl P t = some false) :
    OT P C ⟨some d, .call { callee := .builtin .len, args := #[x], argTypes := #[t] }, ty, pos, af, gd⟩ L Γ (upd L d (.f (.v (.int .i64 l.length)))) Γ :=
  OT.value hn (fun g hg => by simp [AV.id] at hg) fun ρ a w h => ⟨_, by simp [execOp, resolve, invoke, builtin, evv_eval h hx, len_str ht]; rfl, rfl⟩

/-! Parts of slices. -/
def bnd (L : Lo) (n : Nat) : Option Operand → Option Int
  | none => some n
  | some x => match evv L x with
    | some (.int _ i) => some i
    | _ => none
theorem bound_run {ρ : Rho} {a : Act} {w : World} (h : RepsAt C ρ L Γ a w) {x : Operand} {k : IntKind} {i : Int} (hx : evv L x = some (.int k i)) (y : Nat) (code : BoundsCode) (h0 : 0 ≤ i) (h1 : i ≤ y) : (Instr.sliceBound (a.eval x) y code).run P w = .ok i.toNat w := by
  have : 0 ≤ i ∧ i ≤ (y : Int) := ⟨h0, h1⟩
  simp [Instr.sliceBound, evv_eval h hx, asIntOf, this]
theorem bounds_run {ρ : Rho} {a : Act} {w : World} (h : RepsAt C ρ L Γ a w) {lo hi : Option Operand} {l r : Int} (isS : Bool) (n c : Nat) (hc : n ≤ c) (hl : bnd L 0 lo = some l) (hh : bnd L n hi = some r) (h0 : 0 ≤ l) (h1 : l ≤ r) (h2 : r ≤ n) :
    (Instr.sliceBounds isS n c (lo.map a.eval) (hi.map a.eval) none).run P w = .ok (l.toNat, r.toNat, c) w := by
  have hlo : lo = none ∧ l = 0 ∨ ∃ x k, lo = some x ∧ evv L x = some (.int k l) := by
    cases lo with
    | none => simp [bnd] at hl; exact .inl ⟨rfl, by omega⟩
    | some x =>
      simp only [bnd] at hl
      split at hl
      · rename_i k i hk; simp at hl; subst hl; exact .inr ⟨x, _, rfl, hk⟩
      · cases hl
  have hhi : hi = none ∧ r = n ∨ ∃ x k, hi = some x ∧ evv L x = some (.int k r) := by
    cases hi with
    | none => simp [bnd] at hh; exact .inl ⟨rfl, by omega⟩
    | some x =>
      simp only [bnd] at hh
      split at hh
      · rename_i k i hk; simp at hh; subst hh; exact .inr ⟨x, _, rfl, hk⟩
      · cases hh
  unfold Instr.sliceBounds
  rcases hhi with ⟨rfl, rfl⟩ | ⟨x, k, rfl, hx⟩ <;> rcases hlo with ⟨rfl, rfl⟩ | ⟨y, k', rfl, hy⟩
  · simp
  · simp [bound_run (P := P) h hy n _ h0 (by omega)]
  · simp [bound_run (P := P) h hx c _ (by omega) (by omega)]
  · simp [bound_run (P := P) h hx c _ (by omega) (by omega), bound_run (P := P) h hy r.toNat _ h0 (by omega)]
theorem OT.slice {α : Type} {enc : α → List DV} {sz : Nat} {xs : List α} {t e : TypeId} {x : Operand} {lo hi : Option Operand} {A : AV} {l r : Int} (hn : Nat.blt d C.n = true) (hx : ev L x = some A) (hA : A.dv = some (slT enc sz xs)) (hl : bnd L 0 lo = some l) (hh : bnd L xs.length hi = some r)
    (ht : elt P t = some (e, sz)) (he : ∀ z, (enc z).length = sz) (h0 : 0 ≤ l) (h1 : l ≤ r) (h2 : r ≤ xs.length) :
    OT P C ⟨some d, .slice t x lo hi none, ty, pos, af, gd⟩ L Γ (upd L d (A.re (slT enc sz ((xs.take r.toNat).drop l.toNat)))) Γ :=
  OT.value hn (fun g hg => absurd hg (AV.re_id A _ g)) fun ρ a w h => by
    have k1 := ev_rep h hx
    have k2 := dv_rep k1 hA
    obtain ⟨hu, j, hi', hj⟩ := elt_parts ht
    have hlen : ((xs.take r.toNat).drop l.toNat).length = r.toNat - l.toNat := by rw [List.length_drop, List.length_take]; omega
    have hcs : ((xs.take r.toNat).drop l.toNat).flatMap enc = ((xs.flatMap enc).take (r.toNat * sz)).drop (l.toNat * sz) := by rw [flat_take he, flat_drop he]
    unfold DV.rep at k2
    rcases k2 with ⟨hv, hz, hc⟩ | ⟨b, o, c, hv, hc, hm, hl', hb, hr⟩
    · have hxs : xs = [] := List.eq_nil_of_length_eq_zero hz
      subst hxs
      obtain rfl : l = 0 := by simp at h2; omega
      obtain rfl : r = 0 := by simp at h2; omega
      have hb := bounds_run (P := P) h true 0 0 (Nat.le_refl _) hl (by simpa using hh) h0 h1 (by simp)
      refine ⟨.slice none 0 0, ?_, AV.re_rep k1 hA fun J hJ => ?_⟩
      · simp [execOp, hv, Instr.sliceAt, Instr.slice, run_underlying hu, hb, sizeOf, typeInfo, hi']
      · unfold DV.rep; exact .inl ⟨rfl, by simp, by simp⟩
    · have hb' := bounds_run (P := P) h true xs.length c hc hl hh h0 h1 h2
      refine ⟨.slice (some (if c = l.toNat then ⟨b, o, none⟩ else ⟨b, o + l.toNat * sz, none⟩)) (r.toNat - l.toNat) (c - l.toNat), ?_, AV.re_rep k1 hA fun J hJ => ?_⟩
      · have : (if c = l.toNat then (some ⟨b, o, none⟩ : Option Addr) else some ⟨b, o + l.toNat * sz, none⟩) = some (if c = l.toNat then ⟨b, o, none⟩ else ⟨b, o + l.toNat * sz, none⟩) := by split <;> rfl
        simp [execOp, hv, Instr.sliceAt, Instr.slice, run_underlying hu, hb', sizeOf, typeInfo, hi', hj, addr_add, this]
      · unfold DV.rep at hJ ⊢
        rcases hJ with ⟨q, _⟩ | ⟨b', o', c', q, _, _, _, hb2, hr2⟩
        · rw [hv] at q; cases q
        · rw [hv] at q
          simp at q
          obtain ⟨⟨rfl, rfl⟩, rfl⟩ := q
          right
          have hat : repAt J w (((xs.take r.toNat).drop l.toNat).flatMap enc) b (o + l.toNat * sz) := by
            rw [hcs]; exact repAt_drop _ (repAt_take _ hr2)
          by_cases hcl : c = l.toNat
          · have hnil : ((xs.take r.toNat).drop l.toNat) = [] := List.eq_nil_of_length_eq_zero (by rw [hlen]; omega)
            refine ⟨b, o, c - l.toNat, by rw [if_pos hcl, hlen], by rw [hlen]; omega, by omega, by rw [hnil]; simp, .inl (by rw [hnil]; rfl), by rw [hnil]; simp [repAt]⟩
          · refine ⟨b, o + l.toNat * sz, c - l.toNat, by rw [if_neg hcl, hlen], by rw [hlen]; omega, by omega, flat_length he _, ?_, hat⟩
            rcases hb2 with hb2 | hb2
            · left; rw [hcs, hb2]; simp
            · exact .inr hb2
theorem OT.slices {t : TypeId} {x : Operand} {lo hi : Option Operand} {m : List UInt8} {l r : Int} (hn : Nat.blt d C.n = true) (hx : evv L x = some (.string ⟨⟨m⟩⟩)) (hl : bnd L 0 lo = some l) (hh : bnd L m.length hi = some r)
    (ht : isSl P t = some false) (h0 : 0 ≤ l) (h1 : l ≤ r) (h2 : r ≤ m.length) :
    OT P C ⟨some d, .slice t x lo hi none, ty, pos, af, gd⟩ L Γ (upd L d (.f (.v (.string ⟨⟨(m.take r.toNat).drop l.toNat⟩⟩)))) Γ :=
  OT.value hn (fun g hg => by simp [AV.id] at hg) fun ρ a w h => by
    have hu : P.underlying t = some .string := by
      unfold isSl at ht
      cases hu : P.underlying t with
      | none => simp [hu] at ht
      | some d => cases d <;> simp [hu] at ht; rfl
    have hb := bounds_run (P := P) h false m.length m.length (Nat.le_refl _) hl hh h0 h1 h2
    have hsz : ByteArray.size ⟨⟨m⟩⟩ = m.length := rfl
    refine ⟨_, ?_, rfl⟩
    have hex : (⟨⟨m⟩⟩ : ByteArray).extract l.toNat r.toNat = ⟨⟨(m.take r.toNat).drop l.toNat⟩⟩ := by
      apply ByteArray.ext
      simp [ByteArray.data_extract, List.drop_take]
    simp [execOp, evv_eval h hx, Instr.sliceAt, Instr.slice, run_underlying hu, hsz, hb, hex]
/-- A part of an array of one's own. -/
theorem OT.slicep {t n sz g off : Nat} {x : Operand} {lo hi : Option Operand} {o : AO} {cs : List DV} {l r : Int} (hn : Nat.blt d C.n = true) (hx : ev L x = some (.ptr g off)) (hg : Γ g = some o) (ho : o.cells = some cs) (ht : arr P t = some (n, sz)) (hl : bnd L 0 lo = some l) (hh : bnd L n hi = some r)
    (h0 : 0 ≤ l) (h1 : l ≤ r) (h2 : r ≤ n) (h3 : l < n) (hfit : off + n * sz ≤ cs.length) (hm : n ≤ 1048576) :
    OT P C ⟨some d, .slice t x lo hi none, ty, pos, af, gd⟩ L Γ (upd L d (.bs g (off + l.toNat * sz) (r.toNat - l.toNat) sz)) Γ :=
  OT.value hn (fun g' hg' ρ a w h => ev_ment h hx hg') fun ρ a w h => by
    obtain ⟨ob, h3'⟩ := own_block h hg ho
    obtain ⟨b, rfl, hv⟩ := ev_rep h hx ob h3'
    obtain ⟨e, j, hu, hi', hj⟩ := arr_parts ht
    have hb := bounds_run (P := P) h false n n (Nat.le_refl _) hl hh h0 h1 h2
    have hne : n ≠ l.toNat := by omega
    have hd : o ≠ .dead := by rintro rfl; simp [AO.cells] at ho
    obtain ⟨ob2, q1, q2⟩ := h.obj g o hg hd
    rw [h3'] at q1; cases q1
    have hrl := row_len ho q2
    refine ⟨.slice (some ⟨b, off + l.toNat * sz, none⟩) (r.toNat - l.toNat) (n - l.toNat), by simp [execOp, hv, Instr.sliceAt, Instr.sureAddr, run_underlying hu, hb, sizeOf, typeInfo, hi', hj, addr_add, hne], fun ob' h5 => ?_⟩
    rw [h3'] at h5; cases h5
    refine ⟨b, n - l.toNat, rfl, rfl, by omega, by unfold maxLen; omega, ?_⟩
    have : l.toNat * sz + (n - l.toNat) * sz = n * sz := by rw [← Nat.add_mul]; congr 1; omega
    omega
end
end Go.Proofs.Ythbcbfghfhecjaa.Pl
