/-
  Two proofs that say unlike things: the two texts that they tell, in plain words.
-/
import Derived.Test.YtejhgijjegnmnaaZFh
namespace Go.Proofs.Ytejhgijjegnmnaa
set_option linter.unusedVariables false
set_option linter.unusedSimpArgs false
open Go.RowKit Pl
theorem Pl.OT.convbd {P : Program} {C : Cx} {L : Lo} {Γ : Ga} {d : Nat} {ty : TypeId} {pos : String} {af : Array Edge} {gd : Option (Nat × Bool)} {src dst e : TypeId} {x : Operand} {l : List UInt8} (hn : Nat.blt d C.n = true) (hx : evd L x = some (slT bdv 1 l)) (hs : u8s P src = some e) (hd : uks P dst = true) :
    OT P C ⟨some d, .convert src dst x, ty, pos, af, gd⟩ L Γ (upd L d (.f (.v (.string ⟨⟨l⟩⟩)))) Γ := by
  unfold evd at hx
  cases hA : ev L x with
  | none => simp [hA] at hx
  | some A =>
    rw [hA, Option.bind_some] at hx
    refine .convbs (A := A) hn hA ?_ ?_ hs hd
    · cases A <;> simp [AV.dv, rdv] at hx ⊢ <;> exact hx
    · cases A <;> simp [AV.dv, okr] at hx ⊢
/-- Whether two proofs may be and say unlike things. -/
def Stated (ix : H) (p q : Pf) : Prop := rightF ix p = true ∧ rightF ix q = true ∧ ¬ ((p.en = 0 ↔ q.en = 0) ∧ (¬ p.en = 0 ∨ H.l p.it.vl = H.l q.it.vl))
/-- The first place at which two lists differ. -/
def firstD : List (List UInt8) → List (List UInt8) → List UInt8 × List UInt8 × Bool
  | a :: r, b :: s => if a = b then firstD r s else (a, b, true)
  | _, _ => ([], [], false)
abbrev txR (ix : H) (p : Pf) : List (List UInt8) := (txL ix p p.path.length).reverse
open Classical in
noncomputable def clashF (ix : H) (p q : Pf) : List UInt8 × List UInt8 × Bool :=
  if Stated ix p q ∧ H.l (txH ix p p.path.length) = H.l (txH ix q q.path.length) then firstD (txR ix p) (txR ix q) else ([], [], false)
theorem clash_none {ix : H} {p q : Pf} (h : ¬ Stated ix p q) : clashF ix p q = ([], [], false) := if_neg fun k => h k.1
theorem clash_root {ix : H} {p q : Pf} (h : ¬ H.l (txH ix p p.path.length) = H.l (txH ix q q.path.length)) : clashF ix p q = ([], [], false) := if_neg fun k => h k.2
theorem clash_go {ix : H} {p q : Pf} (h : Stated ix p q) (k : H.l (txH ix p p.path.length) = H.l (txH ix q q.path.length)) : clashF ix p q = firstD (txR ix p) (txR ix q) := if_pos ⟨h, k⟩
theorem firstD_at {l m : List (List UInt8)} {i : Nat} (h : i < l.length) (k : i < m.length) (e : ¬ l[i] = m[i]) : firstD (l.drop i) (m.drop i) = (l[i], m[i], true) := by
  rw [List.drop_eq_getElem_cons h, List.drop_eq_getElem_cons k, firstD, if_neg e]
theorem firstD_step {l m : List (List UInt8)} {i : Nat} (h : i < l.length) (k : i < m.length) (e : l[i] = m[i]) : firstD (l.drop i) (m.drop i) = firstD (l.drop (i + 1)) (m.drop (i + 1)) := by
  rw [List.drop_eq_getElem_cons h, List.drop_eq_getElem_cons k, firstD, if_pos e]
theorem firstD_nil (l : List (List UInt8)) : firstD l [] = ([], [], false) := by cases l <;> rfl
theorem firstD_end {l m : List (List UInt8)} {i : Nat} (h : ¬ (i < l.length ∧ i < m.length)) : firstD (l.drop i) (m.drop i) = ([], [], false) := by
  by_cases q : i < l.length
  · have e : m.drop i = [] := List.drop_eq_nil_of_le (by omega)
    rw [e]; exact firstD_nil _
  · have e : l.drop i = [] := List.drop_eq_nil_of_le (by omega)
    rw [e]; rfl
theorem txR_len (ix : H) (p : Pf) : (txR ix p).length = p.path.length + 1 := by rw [List.length_reverse, txL_len _ (Nat.le_refl _)]
theorem txR_text {ix : H} {p : Pf} : ∀ n, n ≤ p.path.length → ∀ t ∈ txL ix p n, t.length ≤ 549755813888
  | 0, _, t, h => by simp only [txL, List.mem_singleton] at h; subst h; exact endT_len p
  | k + 1, hk, t, h => by
    rw [txL_step (by omega), List.mem_append, List.mem_singleton] at h
    rcases h with h | rfl
    · exact txR_text k (by omega) t h
    · exact stepT_len _ _ _ _
theorem txR_head (ix : H) (p : Pf) : ∃ h : 0 < (txR ix p).length, sumH (txR ix p)[0] = txH ix p p.path.length ∧ (txR ix p)[0].length ≤ 549755813888 := by
  obtain ⟨E, r, hE, hS, hl⟩ := tx_head (ix := ix) (p := p) p.path.length (Nat.le_refl _)
  unfold txR
  simp only [hE]
  exact ⟨by simp, hS, hl⟩
end Go.Proofs.Ytejhgijjegnmnaa

