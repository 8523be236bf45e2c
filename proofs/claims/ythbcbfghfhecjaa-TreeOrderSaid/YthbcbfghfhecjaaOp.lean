/-
  Whatever comes in, of a type of numbers, truths, strings, arrays, structs and slices, reads as data.
-/
import Derived.Test.YthbcbfghfhecjaaPt
import Derived.OpenShut
import Derived.ChangeSlices
import Derived.WideShapes
namespace Go.Proofs.Ythbcbfghfhecjaa.Pl
set_option linter.unusedVariables false
set_option linter.unusedSimpArgs false
open Go.RowKit

def ShpN (g : List DV → Prop) : Nat → List DV → Prop
  | 0, cs => cs = []
  | n + 1, cs => ∃ a b, cs = a ++ b ∧ g a ∧ ShpN g n b
def ShpF (g : TypeId → List DV → Prop) : List Field → List DV → Prop
  | [], cs => cs = []
  | f :: fs, cs => ∃ a b, cs = a ++ b ∧ g f.type a ∧ ShpF g fs b
/-- Cells of a type, as data. -/
def Shp (P : Program) : Nat → TypeId → List DV → Prop
  | 0, _, _ => False
  | d + 1, t, cs => match P.underlying t with
    | some .bool => ∃ b, cs = [.v (.bool b)]
    | some (.int k) => ∃ n, cs = [.v (.int k n)] ∧ (Lit.int k n).wf = true
    | some .string => ∃ l, cs = [.v (.string ⟨⟨l⟩⟩)] ∧ l.length ≤ maxLen
    | some (.array n e) => ShpN (Shp P d e) n cs
    | some (.struct fs) => ShpF (Shp P d) fs.toList cs
    | some (.slice e) => ∃ n ds, cs = [.sl (P.cellsOf e) n ds] ∧ ShpN (Shp P d e) n ds
    | _ => False
/-- Types whose cells lie one behind another. -/
def lyF (P : Program) (g : TypeId → Bool) : Nat → List Field → Option Nat
  | off, [] => some off
  | off, f :: fs => bif Nat.beq f.offset off && g f.type then lyF P g (off + P.cellsOf f.type) fs else none
def tyOK (P : Program) (sl : Bool) : Nat → TypeId → Bool
  | 0, _ => false
  | d + 1, t => match P.underlying t with
    | some .bool => true
    | some (.int _) => true
    | some .string => true
    | some (.array n e) => tyOK P sl d e && Nat.beq (n * P.cellsOf e) (P.cellsOf t)
    | some (.struct fs) => match lyF P (tyOK P sl d) 0 fs.toList with
      | some n => Nat.beq n (P.cellsOf t)
      | none => false
    | some (.slice e) => sl && (tyOK P false d e && Nat.blt 0 (P.cellsOf e))
    | _ => false
section
variable {H : Type} {enc : TypeId × Value → H} {P : Program} {w : World} {sp : Nat → Bool} {held : Bool}
/-- What is to be shown of cells. -/
def Ds (P : Program) (w : World) (d : Nat) (t : TypeId) (cs : List Value) : Prop := ∃ ds, repL noK w ds cs ∧ Shp P d t ds ∧ ∀ u ∈ cs, u.oneCell' = true
theorem ds_chunks {d : Nat} {e : TypeId} {m : Nat} : ∀ (n : Nat) (cs : List Value), cs.length = n * m → (∀ i, i < n → Ds P w d e ((cs.drop (i * m)).take m)) → ∃ ds, repL noK w ds cs ∧ ShpN (Shp P d e) n ds ∧ ∀ u ∈ cs, u.oneCell' = true
  | 0, cs, hl, _ => by
    have : cs = [] := List.eq_nil_of_length_eq_zero (by simpa using hl)
    subst this
    exact ⟨[], by simp [repL], rfl, by simp⟩
  | n + 1, cs, hl, h => by
    obtain ⟨a, h1, h2, h3⟩ := h 0 (by omega)
    simp only [Nat.zero_mul, List.drop_zero] at h1 h3
    obtain ⟨b, k1, k2, k3⟩ := ds_chunks (m := m) n (cs.drop m) (by rw [List.length_drop, hl, Nat.succ_mul]; omega) (fun i hi => by
      have := h (i + 1) (by omega)
      rwa [List.drop_drop, Nat.add_comm m, ← Nat.succ_mul])
    refine ⟨a ++ b, by rw [← List.take_append_drop m cs]; exact repL_append h1 k1, ⟨a, b, rfl, h2, k2⟩, fun u hu => ?_⟩
    rw [← List.take_append_drop m cs] at hu
    exact (List.mem_append.1 hu).elim (h3 u) (k3 u)
theorem ds_fields {d : Nat} {g : TypeId → Bool} : ∀ (fs : List Field) (off n : Nat) (cs : List Value), lyF P g off fs = some n → cs.length = n → (∀ f ∈ fs, g f.type = true → Ds P w d f.type ((cs.drop f.offset).take (P.cellsOf f.type))) → ∃ ds, repL noK w ds (cs.drop off) ∧ ShpF (Shp P d) fs ds ∧ ∀ u ∈ cs.drop off, u.oneCell' = true
  | [], off, n, cs, hl, hn, _ => by
    simp only [lyF, Option.some.injEq] at hl
    have : cs.drop off = [] := List.drop_eq_nil_of_le (by omega)
    rw [this]
    exact ⟨[], by simp [repL], rfl, by simp⟩
  | f :: fs, off, n, cs, hl, hn, h => by
    unfold lyF at hl
    cases hc : (Nat.beq f.offset off && g f.type) with
    | false => rw [hc] at hl; simp at hl
    | true =>
      rw [hc, cond_true] at hl
      simp only [Bool.and_eq_true, Nat.beq_eq] at hc
      obtain ⟨a, h1, h2, h3⟩ := h f (by simp) hc.2
      rw [hc.1] at h1 h3
      obtain ⟨b, k1, k2, k3⟩ := ds_fields fs (off + P.cellsOf f.type) n cs hl hn (fun f' hf' => h f' (by simp [hf']))
      have e : cs.drop off = (cs.drop off).take (P.cellsOf f.type) ++ cs.drop (off + P.cellsOf f.type) := by
        rw [← List.drop_drop, List.take_append_drop]
      rw [e]
      exact ⟨a ++ b, repL_append h1 k1, ⟨a, b, rfl, h2, k2⟩, fun u hu => (List.mem_append.1 hu).elim (h3 u) (k3 u)⟩
theorem cells_get {base : Nat} {a : Addr} {n : Nat} {cs : List Value} (h : w.cells? base a n = some cs) : cs.length = n ∧ ∀ j u, cs[j]? = some u → w.cell? (a.add j) = some u := by
  unfold World.cells? at h
  split at h
  · refine ⟨by simpa using mapM_some_length h, fun j u hj => ?_⟩
    have hlt : j < n := by
      have := (List.getElem?_eq_some_iff.1 hj).1
      have h2 := mapM_some_length h
      simp at h2; omega
    have := mapM_some_get h j j (by simp [hlt])
    rw [this, hj]
  · cases h
theorem ds_one {d : Nat} {t : TypeId} {u : Value} {X : DV} (hr : X.rep noK w u) (hs : Shp P d t [X]) (h1 : u.oneCell' = true) : Ds P w d t [u] := ⟨[X], by unfold repL; exact ⟨u, [], rfl, hr, by simp [repL]⟩, hs, by simpa using h1⟩
/-- Cells that can be read are data; a slice that is met has an address of a block. -/
theorem trod_ds (sl : Bool) : ∀ (d : Nat) (t : TypeId) (n : Nat) (cs : List Value) (x : DataW H × List MemPlace), tyOK P sl d t = true → DataW.trod enc P w 0 sp held n t cs = some x → (sl = true → ∀ a l c, .slice (some a) l c ∈ cs → a.spot = none) → Ds P w d t cs
  | 0, t, n, cs, x, hok, _, _ => by simp [tyOK] at hok
  | d + 1, t, 0, cs, x, hok, h, _ => by simp [DataW.trod] at h
  | d + 1, t, n + 1, cs, x, hok, h, hsp => by
    unfold tyOK at hok
    split at hok
    · rename_i hu
      unfold DataW.trod at h; rw [hu] at h
      split at h <;> simp_all
      exact ds_one (X := .v (.bool _)) (by unfold DV.rep; rfl) (by unfold Shp; rw [hu]; exact ⟨_, rfl⟩) rfl
    · rename_i k hu
      unfold DataW.trod at h; rw [hu] at h
      split at h <;> simp_all
      exact ds_one (X := .v (.int _ _)) (by unfold DV.rep; rfl) (by unfold Shp; rw [hu]; exact ⟨_, rfl, h.1.2⟩) rfl
    · rename_i hu
      unfold DataW.trod at h; rw [hu] at h
      split at h <;> simp_all
      rename_i s
      exact ds_one (X := .v (.string s)) (by unfold DV.rep; rfl) (by unfold Shp; rw [hu]; exact ⟨s.data.toList, rfl, h.1⟩) rfl
    · rename_i m e hu
      simp only [Bool.and_eq_true, Nat.beq_eq] at hok
      obtain ⟨xs, q, hq, _, hl, hx, hel⟩ := DataW.trod_array hu h
      obtain ⟨ds, k1, k2, k3⟩ := ds_chunks (P := P) (w := w) (d := d) (e := e) (m := P.cellsOf e) m cs (by rw [hl, hok.2]) (fun i hi => by
        have hg := hel i hi
        rw [List.getElem?_eq_getElem (by omega)] at hg
        refine trod_ds sl d e q _ _ hok.1 hg (fun hs a l c hm => hsp hs a l c (List.mem_of_mem_drop (List.mem_of_mem_take hm))))
      exact ⟨ds, k1, by unfold Shp; rw [hu]; exact k2, k3⟩
    · rename_i fs hu
      split at hok
      · rename_i m hm
        simp only [Nat.beq_eq] at hok
        obtain ⟨xs, q, hq, _, hl, hx, hel⟩ := DataW.trod_struct hu h
        obtain ⟨ds, k1, k2, k3⟩ := ds_fields (P := P) (w := w) (d := d) (g := tyOK P sl d) fs.toList 0 m cs hm (by rw [hl, hok]) (fun f hf hg => by
          obtain ⟨i, hi⟩ := List.getElem?_of_mem hf
          have hi' : fs[i]? = some f := by simpa using hi
          have hg2 := hel i f hi'
          have hlt : i < xs.length := by rw [hx]; exact (Array.getElem?_eq_some_iff.1 hi').1
          rw [List.getElem?_eq_getElem hlt] at hg2
          exact trod_ds sl d f.type q _ _ hg hg2 (fun hs a l c hm => hsp hs a l c (List.mem_of_mem_drop (List.mem_of_mem_take hm))))
        simp only [List.drop_zero] at k1 k3
        exact ⟨ds, k1, by unfold Shp; rw [hu]; exact k2, k3⟩
      · cases hok
    · rename_i e hu
      simp only [Bool.and_eq_true, Nat.blt_eq] at hok
      obtain ⟨hs, hoe, hpos⟩ := hok
      rcases DataW.trod_slice hu h with ⟨rfl, _⟩ | ⟨a, len, cap, elems, rest, q, hq, rfl, _, hb, hle, hm, hlen, hel, _, _⟩
      · exact ds_one (X := .sl (P.cellsOf e) 0 []) (by unfold DV.rep; exact .inl ⟨rfl, rfl, rfl⟩) (by unfold Shp; rw [hu]; exact ⟨0, [], rfl, rfl⟩) rfl
      · have hspot : a.spot = none := hsp hs a len cap (by simp)
        obtain ⟨b, o, s⟩ := a
        have hs' : s = none := hspot
        subst hs'
        have each : ∀ i, i < len → ∃ cs', w.cells? 0 (⟨b, o + i * P.cellsOf e, none⟩ : Addr) (P.cellsOf e) = some cs' ∧ Ds P w d e cs' := fun i hi => by
          have := hel i hi
          rw [List.getElem?_eq_getElem (by omega), Option.bind_eq_some_iff, addr_add] at this
          obtain ⟨cs', h1, h2⟩ := this
          exact ⟨cs', h1, trod_ds false d e q cs' _ hoe h2 (fun hs => by cases hs)⟩
        have key : ∀ (k n o' : Nat), n + k = len → o' = o + n * P.cellsOf e → ∃ ds, repAt noK w ds b o' ∧ ShpN (Shp P d e) k ds ∧ ds.length = k * P.cellsOf e := by
          intro k
          induction k with
          | zero => intro n o' _ _; exact ⟨[], by unfold repAt; trivial, rfl, by simp⟩
          | succ k ih =>
            intro n o' hn ho
            obtain ⟨cs', h1, ds, h2, h3, h4⟩ := each n (by omega)
            obtain ⟨hl, hc⟩ := cells_get h1
            rw [← ho] at hc
            obtain ⟨ds2, j1, j2, j3⟩ := ih (n + 1) (o' + P.cellsOf e) (by omega) (by rw [ho, Nat.succ_mul]; omega)
            have r1 : repAt noK w ds b o' := repAt_of_cells h2 (fun j u hj => by have := hc j u hj; rwa [addr_add] at this) h4
            have hdl : ds.length = P.cellsOf e := by rw [← repL_length h2, hl]
            refine ⟨ds ++ ds2, ?_, ⟨ds, ds2, rfl, h3, j2⟩, by rw [List.length_append, hdl, j3, Nat.succ_mul]; omega⟩
            rw [← hdl] at j1
            exact repAt_app r1 j1
        obtain ⟨ds, k1, k2, k3⟩ := key len 0 o (by omega) (by omega)
        refine ds_one (X := .sl (P.cellsOf e) len ds) ?_ (by unfold Shp; rw [hu]; exact ⟨len, ds, rfl, k2⟩) rfl
        unfold DV.rep
        refine .inr ⟨b, o, cap, rfl, hle, hm, k3, ?_, k1⟩
        cases hd : ds with
        | nil => exact .inl rfl
        | cons X Xs =>
          refine .inr ⟨?_, fun hh => hh⟩
          rw [hd] at k1
          unfold repAt at k1
          obtain ⟨⟨u, hc, _⟩, _⟩ := k1
          exact World.block_lt_of_cell? w _ hc
    · cases hok
where
  repAt_app {K : Nat → Prop} {w : World} : ∀ {cs ds : List DV} {b o : Nat}, repAt K w cs b o → repAt K w ds b (o + cs.length) → repAt K w (cs ++ ds) b o
  | [], ds, b, o, _, h => by simpa using h
  | X :: Xs, ds, b, o, h, k => by
    unfold repAt at h
    rw [List.cons_append]
    unfold repAt
    exact ⟨h.1, repAt_app h.2 (by rw [List.length_cons] at k; rwa [show o + 1 + Xs.length = o + (Xs.length + 1) by omega])⟩
/-- An argument. -/
def ShV (P : Program) (d : Nat) (t : TypeId) (X : DV) : Prop := match P.underlying t with
  | some (.array _ _) => ∃ ds, X = .ag ds ∧ Shp P d t ds
  | some (.struct _) => ∃ ds, X = .ag ds ∧ Shp P d t ds
  | _ => Shp P d t [X]
theorem okw_spot {r : Reach} {base : Nat} {u : TypeId} {a : Addr} {l c : Nat} (h : Cell.okWide P w r base u (.slice (some a) l c)) : a.spot = none := by
  unfold Cell.okWide at h
  have h2 : Cell.ok P w r base u (.slice (some a) l c) := by
    split at h <;> first | exact h | (rename_i e; cases e)
  unfold Cell.ok at h2
  split at h2 <;> first | (rename_i e; cases e; done) | skip
  · rename_i e1 e2
    cases e2
    exact h2.2.2.2.1
  · cases h2
theorem value_spots {r : Reach} {base : Nat} {t : TypeId} {v : Value} (h : Value.okWide P w r base t v) (a : Addr) (l c : Nat) (hm : .slice (some a) l c ∈ v.cells.toList) : a.spot = none := by
  have row : ∀ cs, Row.okWide P w r base t cs → .slice (some a) l c ∈ cs.toList → a.spot = none := fun cs ⟨ts, _, _, hc⟩ hm => by
    obtain ⟨i, hi⟩ := List.getElem?_of_mem hm
    obtain ⟨u, _, hu⟩ := hc i _ (by simpa using hi)
    exact okw_spot hu
  unfold Value.okWide at h
  split at h
  · obtain ⟨cs, rfl, _, hr⟩ := h; exact row cs hr (by simpa [Value.cells] using hm)
  · obtain ⟨cs, rfl, _, hr⟩ := h; exact row cs hr (by simpa [Value.cells] using hm)
  · cases v <;> simp [Value.cells] at hm
    · obtain ⟨rfl, rfl, rfl⟩ := hm; exact okw_spot h
    · rename_i cs
      exfalso
      unfold Cell.okWide at h
      split at h <;> first | (rename_i e; cases e; done) | skip
      unfold Cell.ok at h
      split at h <;> first | (rename_i e; cases e; done) | cases h
/-- Whatever comes in reads as data of its type. -/
theorem open_dv {base : Nat} {t : TypeId} {v : Value} {x : DataW H} {ps : List MemPlace} (d : Nat) (hok : tyOK P true d t = true) (hval : Value.okWide P w .any base t v) (h : DataW.Trod enc P w 0 sp held t v x ps) : ∃ X, X.rep noK w v ∧ ShV P d t X := by
  obtain ⟨n, hn⟩ := h
  obtain ⟨ds, h1, h2, h3⟩ := trod_ds true d t n _ _ hok hn (fun _ => value_spots hval)
  have agg : ∀ cs : Array Value, v = .agg cs → (DV.ag ds).rep noK w v := fun cs e => by
    subst e
    unfold DV.rep
    exact ⟨cs.toList, by simp, by simpa [Value.cells] using h1⟩
  have one : (∀ cs, v ≠ .agg cs) → v.cells.toList = [v] := fun h => by cases v <;> simp [Value.cells] at h ⊢
  have hne : ∀ u, P.underlying t = some u → (∀ m e, u ≠ .array m e) → (∀ fs, u ≠ .struct fs) → ∀ cs, v ≠ .agg cs := fun u hu n1 n2 cs e => by
    subst e
    unfold Value.okWide at hval
    rw [hu] at hval
    split at hval
    · rename_i e; cases e; exact n2 _ rfl
    · rename_i e; cases e; exact n1 _ _ rfl
    · unfold Cell.okWide at hval
      split at hval <;> first | (rename_i e; cases e; done) | skip
      unfold Cell.ok at hval
      split at hval <;> first | (rename_i e; cases e; done) | cases hval
  have sing : (∀ cs, v ≠ .agg cs) → ∃ X, ds = [X] ∧ X.rep noK w v := fun hh => by
    rw [one hh] at h1
    match ds, h1 with
    | [], h1 => simp [repL] at h1
    | [X], h1 =>
      unfold repL at h1
      obtain ⟨u, r, e, h4, h5⟩ := h1
      cases e
      exact ⟨X, rfl, h4⟩
    | X :: Y :: r, h1 =>
      unfold repL at h1
      obtain ⟨u, r, e, h4, h5⟩ := h1
      cases e
      unfold repL at h5
      obtain ⟨_, _, e, _⟩ := h5
      cases e
  unfold ShV
  cases hu : P.underlying t with
  | none => unfold Shp at h2; cases d with | zero => exact h2.elim | succ d => simp only [Shp, hu] at h2
  | some u =>
    have hv := hval
    unfold Value.okWide at hv
    rw [hu] at hv
    cases u with
    | array m e => obtain ⟨cs, e, _, _⟩ := hv; exact ⟨_, agg cs e, ds, rfl, h2⟩
    | struct fs => obtain ⟨cs, e, _, _⟩ := hv; exact ⟨_, agg cs e, ds, rfl, h2⟩
    | _ =>
      obtain ⟨X, rfl, hX⟩ := sing (hne _ hu (by intro _ _ e; cases e) (by intro _ e; cases e))
      exact ⟨X, hX, h2⟩
end
end Go.Proofs.Ythbcbfghfhecjaa.Pl
