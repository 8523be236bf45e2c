import Derived.Test.YtmjokdhhniblgaaGreatYGf
import Derived.Test.YtmjokdhhniblgaaGreatYEb
import Derived.Test.YtmjokdhhniblgaaGreatYEd
/-
  Epochs: what the program's side comes to; a batch's order; each epoch follows from those ahead of it.
-/
namespace Go.Proofs.YtmjokdhhniblgaaGreat
set_option linter.unusedVariables false
set_option linter.unusedSimpArgs false
open Go.RowKit Pl
set_option maxRecDepth 100000
theorem fit_en {e : En} (f : enFit e) : Fit [.s, .i .i64, .i .u64] e.dv := fit_str f.1 (fit_i64 f.2.1 (fit_u64 f.2.2 fit_nil))
theorem en_dv {a b : En} : a.dv = b.dv ↔ a = b := by
  refine ⟨fun h => ?_, fun h => by rw [h]⟩
  cases a; cases b
  simp only [En.dv, List.cons.injEq, DV.v.injEq, Value.int.injEq, and_true, true_and] at h
  obtain ⟨h1, h2, h3⟩ := h
  rw [strV_inj h1, h2, h3]
theorem hdv_inj {a b : H} (h : hdv a = hdv b) : a = b := by
  refine H.l_inj (u8v_inj.1 ?_)
  have h1 := vals_u8 (H.l a); have h2 := vals_u8 (H.l b)
  have e : (H.l a).flatMap bdv = (H.l b).flatMap bdv := h
  rw [e, h2] at h1
  injection h1 with h1; exact h1.symm
theorem hd_dv {a b : Hd} : a.dv = b.dv ↔ a = b := by
  refine ⟨fun h => ?_, fun h => by rw [h]⟩
  obtain ⟨a1, a2, a3, a4, a5, a6, a7⟩ := a; obtain ⟨b1, b2, b3, b4, b5, b6, b7⟩ := b
  unfold Hd.dv at h
  simp only [List.cons.injEq, DV.v.injEq, Value.int.injEq, true_and] at h
  obtain ⟨h1, h2, h3, h⟩ := h
  obtain ⟨h4, h⟩ := List.append_inj h (by unfold hdv; rw [flat_length (sz := 1) (enc := bdv) (fun _ => rfl), flat_length (sz := 1) (enc := bdv) (fun _ => rfl), H.l_len, H.l_len])
  obtain ⟨h5, h⟩ := List.append_inj h (by unfold hdv; rw [flat_length (sz := 1) (enc := bdv) (fun _ => rfl), flat_length (sz := 1) (enc := bdv) (fun _ => rfl), H.l_len, H.l_len])
  simp only [sgdv, List.cons.injEq, DV.v.injEq, Value.int.injEq, true_and, and_true] at h
  obtain ⟨h6, h7⟩ := h
  subst h1 h2 h3 h6 h7
  rw [hdv_inj h4, hdv_inj h5]
/-- What make1 and Check come to. -/
def makeV (kn : List Kn) (hs : List Hd) (b : List En) (tk : Int) : Pub × List Kn × Bool := if badN kn hs b tk = true then (zeroPub, [], false) else (⟨headN kn hs b tk, byN b⟩, knN kn hs b, true)
theorem makeV_bad {kn : List Kn} {hs : List Hd} {b : List En} {tk : Int} (h : badN kn hs b tk = true) : makeV kn hs b tk = (zeroPub, [], false) := if_pos h
theorem makeV_good {kn : List Kn} {hs : List Hd} {b : List En} {tk : Int} (h : badN kn hs b tk = false) : makeV kn hs b tk = (⟨headN kn hs b tk, byN b⟩, knN kn hs b, true) := if_neg (by rw [h]; simp)
def okC (y : Int) (kn : List Kn) (hs : List Hd) (p : Pub) : Prop := badN kn hs p.es p.hd.tk = false ∧ p.es = byN p.es ∧ checkH y p.hd = true ∧ { headN kn hs p.es p.hd.tk with r := p.hd.r, s := p.hd.s } = p.hd
open Classical in
noncomputable def checkV (y : Int) (kn : List Kn) (hs : List Hd) (p : Pub) : List Kn × Bool := if okC y kn hs p then (knN kn hs p.es, true) else ([], false)
theorem checkV_yes {y : Int} {kn : List Kn} {hs : List Hd} {p : Pub} (h : okC y kn hs p) : checkV y kn hs p = (knN kn hs p.es, true) := if_pos h
theorem checkV_no {y : Int} {kn : List Kn} {hs : List Hd} {p : Pub} (h : ¬ okC y kn hs p) : checkV y kn hs p = ([], false) := if_neg h
theorem inNm_perm (e : En) : ∀ l : List En, (inNm e l).Perm (e :: l)
  | [] => by unfold inNm; exact List.Perm.refl _
  | x :: r => by
    rw [inNm_cons]
    split
    · exact ((inNm_perm e r).cons x).trans (List.Perm.swap e x r)
    · exact List.Perm.refl _
theorem byN_perm (l : List En) : (byN l).Perm l := by
  have : ∀ (l o : List En), (l.foldl (fun o e => inNm e o) o).Perm (o ++ l) := fun l => by
    induction l with
    | nil => intro o; rw [List.append_nil]; exact List.Perm.refl _
    | cons e r ih =>
      intro o
      rw [List.foldl_cons]
      exact (ih _).trans (((inNm_perm e o).append_right r).trans (List.perm_middle.symm))
  exact this l []
theorem inNm_last {e : En} : ∀ {o : List En}, (∀ x ∈ o, leN x.nm e.nm = true) → inNm e o = o ++ [e]
  | [], _ => rfl
  | x :: r, h => by
    rw [inNm_cons, if_pos (h x (List.mem_cons_self ..)), inNm_last (fun y hy => h y (List.mem_cons_of_mem _ hy))]; rfl
theorem byN_of_sorted {l : List En} (h : sortedN l) : byN l = l := by
  have : ∀ (k : Nat), k ≤ l.length → byN (l.take k) = l.take k := fun k => by
    induction k with
    | zero => intro _; rfl
    | succ k ih =>
      intro hk
      rw [byN_snoc (by omega : k < l.length), ih (by omega), inNm_last, ← take_snoc' (by omega)]
      intro x hx
      obtain ⟨j, hj, rfl⟩ := List.mem_iff_getElem.1 hx
      rw [List.length_take] at hj
      rw [List.getElem_take]
      exact List.pairwise_iff_getElem.1 h j k (by omega) (by omega) (by omega)
  have := this l.length (Nat.le_refl _)
  rwa [List.take_length] at this
theorem byN_idem (l : List En) : byN (byN l) = byN l := byN_of_sorted (byN_sorted l)
theorem bad_perm {kn : List Kn} (hc : chainK none kn) {hs : List Hd} {a b : List En} (h : a.Perm b) (tk : Int) : badN kn hs a tk = badN kn hs b tk := by
  unfold badN; rw [addR_perm hc h, h.length_eq]
theorem kn_perm {kn : List Kn} (hc : chainK none kn) {hs : List Hd} {a b : List En} (h : a.Perm b) : knN kn hs a = knN kn hs b := by
  unfold knN; rw [addR_perm hc h]
theorem head_perm {kn : List Kn} (hc : chainK none kn) {hs : List Hd} {a b : List En} (h : a.Perm b) (tk : Int) : headN kn hs a tk = headN kn hs b tk := by
  unfold headN; rw [kn_perm hc h, h.length_eq]
theorem bad_ok {kn : List Kn} {hs : List Hd} {b : List En} {tk : Int} (h : badN kn hs b tk = false) : okAll kn b := by
  have h1 := (badN_no h).1
  rw [addR_if] at h1
  split at h1
  · rename_i q; exact q.2
  · cases h1
theorem bad_fit {kn : List Kn} {hs : List Hd} {b : List En} {tk : Int} (h : badN kn hs b tk = false) : ∀ e ∈ b, enFit e := fun e he => by
  obtain ⟨a, b, c⟩ := rightE_parts ((bad_ok h).1 e he).1
  exact ⟨by omega, ⟨by omega, by omega⟩, ⟨by omega, by omega⟩⟩
theorem byN_fit {b : List En} (h : ∀ e ∈ b, enFit e) : ∀ e ∈ byN b, enFit e := fun e he => h e ((byN_perm b).mem_iff.1 he)
theorem headN_fit {kn : List Kn} {hs : List Hd} {b : List En} {tk : Int} (h : badN kn hs b tk = false) (hl : hs.length ≤ 1000000) : hdFit (headN kn hs b tk) := right_fit (headN_right h hl) ⟨⟨Int.le_refl _, by show (0 : Int) < 18446744073709551616; decide⟩, ⟨Int.le_refl _, by show (0 : Int) < 18446744073709551616; decide⟩⟩
theorem kn_chain {kn : List Kn} (hc : chainK none kn) (hs : List Hd) (b : List En) : chainK none (knN kn hs b) := addR_chain hc _ b
theorem kn_epfit {kn : List Kn} (he : epFit kn) {hs : List Hd} (hl : hs.length ≤ 1000000) (b : List En) : epFit (knN kn hs b) := addR_fit ⟨by omega, by omega⟩ he b
def knStep (s : List Kn × Nat) (p : Pub) : List Kn × Nat := ((addR s.1 ((s.2 + 1 : Nat) : Int) p.es).1, s.2 + 1)
def knPs (ps : List Pub) : List Kn := (ps.foldl knStep ([], 0)).1
theorem knPs_two (ps : List Pub) : ps.foldl knStep ([], 0) = (knPs ps, ps.length) := by
  have : ∀ (ps : List Pub) (s : List Kn × Nat), (ps.foldl knStep s).2 = s.2 + ps.length := fun ps => by
    induction ps with
    | nil => intro s; rfl
    | cons p r ih => intro s; rw [List.foldl_cons, ih, List.length_cons]; show s.2 + 1 + r.length = _; omega
  have h := this ps ([], 0)
  rw [Nat.zero_add] at h
  exact Prod.ext rfl h
theorem knPs_snoc (ps : List Pub) (p : Pub) : knPs (ps ++ [p]) = knN (knPs ps) (ps.map Pub.hd) p.es := by
  unfold knPs; rw [List.foldl_append, knPs_two, List.foldl_cons, List.foldl_nil]; unfold knN; rw [List.length_map]; rfl
def stepOk (x : Int) (ps : List Pub) (p : Pub) : Prop := badN (knPs ps) (ps.map Pub.hd) p.es p.hd.tk = false ∧ p.hd = signH x (headN (knPs ps) (ps.map Pub.hd) p.es p.hd.tk) ∧ p.es = byN p.es
def epsGood (x : Int) (ps : List Pub) : Prop := ∀ i (h : i < ps.length), stepOk x (ps.take i) ps[i]
theorem epsGood_snoc {x : Int} {ps : List Pub} {p : Pub} (h : epsGood x ps) (k : stepOk x ps p) : epsGood x (ps ++ [p]) := fun i hi => by
  rw [List.length_append, List.length_singleton] at hi
  by_cases hl : i < ps.length
  · rw [List.getElem_append_left hl, List.take_append_of_le_length (by omega)]; exact h i hl
  · have e : i = ps.length := by omega
    subst e
    rw [List.getElem_append_right (Nat.le_refl _), List.take_append_of_le_length (Nat.le_refl _), List.take_length]
    simpa using k
structure EpsWell (x : Int) (s : Eps) : Prop where
  hs : s.hs = s.ps.map Pub.hd
  kn : s.kn = knPs s.ps
  good : epsGood x s.ps
  chain : chainK none s.kn
  fit : epFit s.kn
theorem sign_tk (x : Int) (h : Hd) : (signH x h).tk = h.tk := rfl
theorem epS_well (x : Int) {s : Eps} (h : EpsWell x s) (b : UInt8) (hl : s.hs.length ≤ 1000000) : EpsWell x (epS x s b) := by
  unfold epS
  obtain ⟨B, hB⟩ : ∃ B, B = epB s.kn b (epN b) := ⟨_, rfl⟩
  obtain ⟨T, hT⟩ : ∃ T, T = s.tk + epT b := ⟨_, rfl⟩
  rw [← hB, ← hT]
  split
  · exact ⟨h.hs, h.kn, h.good, h.chain, h.fit⟩
  · rename_i hb
    have hb' := Bool.eq_false_iff.2 hb
    have hp := byN_perm B
    refine ⟨?_, ?_, ?_, kn_chain h.chain _ _, kn_epfit h.fit hl _⟩
    · show s.hs ++ _ = (s.ps ++ _).map Pub.hd
      rw [List.map_append, ← h.hs]; rfl
    · show knN s.kn s.hs B = _
      rw [knPs_snoc, ← h.hs, ← h.kn]
      exact (kn_perm h.chain hp).symm
    · refine epsGood_snoc h.good ?_
      unfold stepOk
      rw [← h.hs, ← h.kn]
      refine ⟨?_, ?_, (byN_idem B).symm⟩
      · show badN s.kn s.hs (byN B) (signH x (headN s.kn s.hs B T)).tk = false
        rw [sign_tk, bad_perm h.chain hp]; exact hb'
      · show signH x (headN s.kn s.hs B T) = signH x (headN s.kn s.hs (byN B) (signH x (headN s.kn s.hs B T)).tk)
        rw [sign_tk, head_perm h.chain hp]; rfl
theorem epsR_well (x : Int) (l : List UInt8) (hl : l.length ≤ 1000) : EpsWell x (epsR x l) := by
  have : ∀ (k : Nat), k ≤ l.length → EpsWell x (epsR x (l.take k)) := fun k => by
    induction k with
    | zero => intro _; exact ⟨rfl, rfl, fun i h => absurd h (Nat.not_lt_zero _), trivial, fun k h => (by cases h)⟩
    | succ k ih =>
      intro hk
      have hok := (epsR_ok x (l.take k)).hs
      rw [List.length_take, Nat.min_eq_left (by omega)] at hok
      rw [epsR_snoc x (by omega : k < l.length)]; exact epS_well x (ih (by omega)) _ (by omega)
  have := this l.length (Nat.le_refl _)
  rwa [List.take_length] at this
end Go.Proofs.YtmjokdhhniblgaaGreat

