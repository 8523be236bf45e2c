/-
  A logic of walks: a row that is given away and comes back, as it was or grown: capacities, copies, overlaps, the contract. A logic of walks: appends to a row that was given, in its room or into a new one; overlaps; the contract of giving a row away. A logic of walks: a row that is given away and comes back, as it was or grown: the contract; overlaps of apart slices. A logic of walks: rows of one's own whose slice lies in a box: the slice's value is named.
-/
import Derived.Test.YteapoemockimfaaZQ2
import Derived.Lib.Overlaps
section
namespace Go.Proofs.Yteapoemockimfaa.Pl
set_option linter.unusedVariables false
set_option linter.unusedSimpArgs false
open Go.RowKit
/-- The room of the block that is lent. -/
def CapM (C : Cx) (sz c : Nat) : Prop := ∀ b, C.M 0 = some (some b) → bsz C.w0 b = c * sz ∧ b < C.w0.heap.size
section
variable {P : Program} {C : Cx} {L : Lo} {Γ : Ga} {d : Nat} {ty : TypeId} {pos : String} {af : Array Edge} {gd : Option (Nat × Bool)}
theorem run_copy_rows {w : World} {dT sT ty e sz g o dLen dCap : Nat} {a : Addr} {sLen sCap : Nat} {us : List Value} {T : TypeId} {cs : List Value} (hu : P.underlying dT = some (.slice e)) {i : TypeInfo} (hi : P.info? e = some i) (hsz : i.size = sz)
    (hg : w.heap[g]? = some (.cells us.toArray T (0, 0))) (hl : cs.length = Nat.min sLen dLen * sz) (hsrc : ∀ j v, cs[j]? = some v → w.cell? (a.add j) = some v) (hfit : o + cs.length ≤ us.length) (h1 : ∀ v ∈ cs, v.oneCell' = true) :
    (Builtin.copy_ #[dT, sT] ty #[.slice (some ⟨g, o, none⟩) dLen dCap, .slice (some a) sLen sCap]).run P w = .ok (goInt (Nat.min sLen dLen)) (w.setRow g (splice us o cs).toArray) := by
  have hfc := run_firstCells_some (P := P) w sz (Nat.min sLen dLen) a sLen sCap cs hl hsrc
  obtain ⟨s1, _⟩ := heap_row_turn (P := P) hg hfit h1
  simp [Builtin.copy_, run_underlying hu, Builtin.lenOf, sizeOf, typeInfo, hi, hsz, hfc, s1]
theorem splice_take' {α : Type} {us vs : List α} {off n : Nat} (h : off ≤ n) (hn : n ≤ us.length) : (splice us off vs).take (splice (us.take n) off vs).length = splice (us.take n) off vs := by
  have e1 : (us.take n).take off = us.take off := by rw [List.take_take, Nat.min_eq_left h]
  unfold splice
  rw [e1]
  have hle : (us.take off).length = off := by simp; omega
  rw [List.append_assoc, List.append_assoc, List.take_append, List.take_append]
  simp only [List.length_append, List.length_drop, List.length_take]
  rw [List.take_of_length_le (l := us.take off) (by simp only [List.length_take]; omega), List.take_of_length_le (l := vs) (by omega)]
  congr 2
  have : (us.take n).drop (off + vs.length) = (us.drop (off + vs.length)).take (n - (off + vs.length)) := by rw [List.drop_take]
  rw [this]
  congr 1
  omega
theorem splice_rep' {K : Nat → Prop} {w : World} {cs ds : List DV} {us vs : List Value} {off n : Nat} (hn : cs.length = n) (h : off ≤ n) (hu : n ≤ us.length) (hr : repL K w cs (us.take n)) (hd : repL K w ds vs) : (splice cs off ds).length = (splice (us.take n) off vs).length ∧ repL K w (splice cs off ds) ((splice us off vs).take (splice cs off ds).length) := by
  have hl := repL_length hd
  have e : (splice cs off ds).length = (splice (us.take n) off vs).length := by
    unfold splice; simp only [List.length_append, List.length_take, List.length_drop, hn, hl]; omega
  refine ⟨e, ?_⟩
  rw [e, splice_take' h hu]
  exact splice_rep off hr hd
end
end Go.Proofs.Yteapoemockimfaa.Pl
end
section
namespace Go.Proofs.Yteapoemockimfaa.Pl
set_option linter.unusedVariables false
set_option linter.unusedSimpArgs false
open Go.RowKit
/-- The room, nothing for nothing. -/
def CapN (C : Cx) (sz c : Nat) : Prop := CapM C sz c ∧ (C.M 0 = some none → c = 0)
section
variable {P : Program} {C : Cx} {L : Lo} {Γ : Ga} {d : Nat} {ty : TypeId} {pos : String} {af : Array Edge} {gd : Option (Nat × Bool)}
end
end Go.Proofs.Yteapoemockimfaa.Pl
end
section
namespace Go.Proofs.Yteapoemockimfaa.Pl
set_option linter.unusedVariables false
set_option linter.unusedSimpArgs false
open Go.RowKit
/-- What comes back of a row that was given away. -/
def Gave (e sz : Nat) (cs' : List DV) (n' : Nat) (w : World) (ob : Option Nat) (u : Value) (w' : World) : Prop := ∃ ob', Kept (fun b => ob = some b) w w' ∧ (∀ b, ob' = some b → (ob = some b ∨ w.heap.size ≤ b) ∧ b < w'.heap.size) ∧ (∀ K', (AO.row e sz cs').rep K' w' ob') ∧ ∀ ρ g K B, ρ g = some ob' → (AV.ow g n' sz).rep ρ K B w' u
/-- A contract: the row is given away; what comes back is it, turned, or a new one. -/
def PA (P : Program) (f : FuncId) (As : List AV) (e sz : Nat) (cs cs' : List DV) (n' : Nat) : Prop := ∀ w K ob us, (∀ b, K b → b < w.heap.size ∧ ob ≠ some b) → (∀ b, ob = some b → b < w.heap.size) → (AO.mrow 0 e sz cs).rep (KM K ob) w ob → repsA (one ob) (KM K ob) w.heap.size w As us →
  Calls P f us.toArray w fun r w' => ∃ u, r = .returned u ∧ Gave e sz cs' n' w ob u w'
theorem PA.enter {P : Program} {f : FuncId} {fn : Func} {c : Code} {As : List AV} {e sz n' : Nat} {cs cs' : List DV} (hf : P.funcs[f]? = some fn) (hb : fn.body = some c) {nt : Nat} (hnt : fn.ntmps = nt) (hn : Nat.ble As.length nt = true) (hids : (As.all fun A => match A.id with | none => true | some g => Nat.beq g 0) = true)
    (h : ∀ w K ob cp, CapN ⟨w, K, nt, one ob⟩ sz cp → cp ≤ maxLen → TC P ⟨w, K, nt, one ob⟩ c (bodyPost P fn fun r w' => ∃ u, r = .returned u ∧ Gave e sz cs' n' w ob u w') (argA As) (G1 (.mrow 0 e sz cs))) : PA P f As e sz cs cs' n' := by
  intro w K ob us hK hlt ho hr
  subst hnt
  have hlen := repsA_length hr
  have hcap : ∃ cp, CapN ⟨w, K, fn.ntmps, one ob⟩ sz cp ∧ cp ≤ maxLen := by
    rcases ho with ⟨rfl, _⟩ | ⟨b, vs, cap, rfl, q1, q2, q3, _⟩
    · exact ⟨0, ⟨fun b hb => (by have := (one_some (g := 0) (ob := none) (x := some b) hb).2; cases this), fun _ => rfl⟩, by unfold maxLen; omega⟩
    · refine ⟨cap, ⟨fun b' hb => ?_, fun hb => (by have := (one_some (g := 0) (ob := some b) (x := none) hb).2; cases this)⟩, q3⟩
      have := (one_some (g := 0) (ob := some b) (x := some b') hb).2; cases this
      refine ⟨?_, hlt b rfl⟩
      show bsz w b = _
      unfold bsz; rw [q1]; simpa using q2
  obtain ⟨cp, hcp, hcm⟩ := hcap
  refine calls_of_wp hf hb (h w K ob cp hcp hcm _ _ ⟨one ob, ?_⟩)
  have hKK : KK K (one ob) (G1 (.mrow 0 e sz cs)) = KM K ob := KM_eq (by simp)
  refine ⟨rfl, by simp at hn ⊢; omega, fun b hb => ⟨(hK b hb).1, fun ⟨k, e⟩ => (hK b hb).2 (one_some e).2.symm⟩, Kept.refl _ _, fun g hg => ?_, fun t X g ht hg => ?_, fun g b e => hlt b (one_some e).2.symm, fun g g' b e e' _ _ => by rw [(one_some e).1, (one_some e').1],
    fun g b o e _ hkey _ => ?_, fun g o k ob' e hkey hob => ?_, fun g o e _ => ?_, fun t X ht => ?_⟩
  · cases hb : Nat.beq g 0 with
    | false => simp [one, hb]
    | true => rw [Nat.beq_eq] at hb; subst hb; exact absurd ⟨_, by simp [G1, upd]; rfl, by simp⟩ hg
  · have := List.all_eq_true.1 hids X (List.mem_of_getElem? ht)
    rw [hg] at this
    rw [Nat.beq_eq] at this; subst this
    simp [G1, upd]
  · obtain ⟨_, rfl⟩ := G1_some e
    cases hkey
  · obtain ⟨rfl, rfl⟩ := G1_some e
    cases hkey
    exact hob
  · obtain ⟨rfl, rfl⟩ := G1_some e
    exact ⟨ob, by simp [one], by rw [hKK]; exact ho⟩
  · obtain ⟨u, h1, h2⟩ := repsA_get hr ht
    have htl : t < us.length := (List.getElem?_eq_some_iff.1 h1).1
    have : (us.toArray ++ Array.replicate (fn.ntmps - us.toArray.size) undef).getD t undef = u := by
      rw [Array.getD_eq_getD_getElem?, Array.getElem?_append_left (by simpa using htl)]
      simp [h1]
    show AV.rep _ _ _ w X _
    rw [hKK]
    have e2 : (({ tmps := us.toArray ++ Array.replicate (fn.ntmps - us.toArray.size) undef, defers := [] } : Act).tmps).getD t undef = u := this
    rw [e2]
    exact h2
section
variable {P : Program} {C : Cx} {L : Lo} {Γ : Ga}
end
section
variable {P : Program} {C : Cx} {L : Lo} {Γ : Ga} {d : Nat} {ty : TypeId} {pos : String} {af : Array Edge} {gd : Option (Nat × Bool)}
end
end Go.Proofs.Yteapoemockimfaa.Pl
end
section
namespace Go.Proofs.Yteapoemockimfaa.Pl
set_option linter.unusedVariables false
set_option linter.unusedSimpArgs false
open Go.RowKit
section
variable {P : Program} {C : Cx} {L : Lo} {Γ : Ga} {ρ : Rho} {a : Act} {w : World}
/-- A slot is told anew. -/
theorem RepsAt.tell (h : RepsAt C ρ L Γ a w) (t : Nat) (Y : AV) (hY : Y.rep ρ (KK C.K0 ρ Γ) C.w0.heap.size w (a.tmps.getD t undef)) (hi : ∀ g, Y.id = some g → Γ g ≠ none) : RepsAt C ρ (upd L t Y) Γ a w := by
  refine ⟨h.df, h.sz, h.k0, h.fr, h.dom, fun s X g hs hg => ?_, h.lt, h.inj, h.new, h.len, h.obj, fun s X hs => ?_⟩
  · rcases upd_some hs with ⟨rfl, rfl⟩ | ⟨_, hs⟩
    · exact hi g hg
    · exact h.ment s X g hs hg
  · rcases upd_some hs with ⟨rfl, rfl⟩ | ⟨_, hs⟩
    · exact hY
    · exact h.slot s X hs
theorem v_rep {K : Nat → Prop} {w : World} {u x : Value} (h : (DV.v u).rep K w x) : x = u := by unfold DV.rep at h; exact h
/-- A row is named: its slice's value becomes a letter. -/
theorem reps_name (t : Nat) {g n sz T : Nat} {cs : List DV} (ht : L t = some (.ow g n sz)) (hg : Γ g = some (.row T sz cs)) (h : Reps C L Γ a w) : ∃ ad c, Reps C (upd L t (.d (.v (.slice ad n c)))) (upd Γ g (.nrow (.slice ad n c) n T sz cs)) a w := by
  obtain ⟨ρ, h⟩ := h
  obtain ⟨ob, h1, h2⟩ := h.obj g _ hg (by simp)
  have hs := h.slot t _ ht ob h1
  have hu : ∃ ad c, a.tmps.getD t undef = .slice ad n c := by
    rcases hs with ⟨_, hu, rfl⟩ | ⟨b, c, _, hu, _⟩
    · exact ⟨_, _, hu⟩
    · exact ⟨_, _, hu⟩
  obtain ⟨ad, c0, hu⟩ := hu
  refine ⟨ad, c0, ρ, ?_⟩
  rw [← hu]
  have hr : (AO.nrow (a.tmps.getD t undef) n T sz cs).rep (KK C.K0 ρ Γ) w ob := by
    rcases hs with ⟨e, hu, hn⟩ | ⟨b, c, e, hu, k1, k2, k3⟩
    · subst e
      rcases h2 with ⟨_, q⟩ | ⟨b', _, _, q, _⟩
      · exact .inl ⟨rfl, hu, hn, q⟩
      · cases q
    · subst e
      rcases h2 with ⟨q, _⟩ | ⟨b', us, cap, q, q1, q2, q3, q4, q5, q6⟩
      · cases q
      · cases q
        refine .inr ⟨b, us, c, rfl, hu, k1, q1, ?_, k2, q4, q5, q6⟩
        rw [k3]; unfold bsz; rw [q1]; simp
  have h' := h.lent hg (by simp) h1 (Kept.refl _ w) (o' := .nrow (a.tmps.getD t undef) n T sz cs) (by simp) rfl hr
  exact h'.tell t _ (by show DV.rep _ _ _ _; unfold DV.rep; rfl) (fun g' e => by simp [AV.id] at e)
theorem TE.name {R : Act → World → Prop} (t : Nat) {g n sz T : Nat} {cs : List DV} (ht : L t = some (.ow g n sz)) (hg : Γ g = some (.row T sz cs)) (k : ∀ ad c, TE C R (upd L t (.d (.v (.slice ad n c)))) (upd Γ g (.nrow (.slice ad n c) n T sz cs))) : TE C R L Γ := fun a w h => by
  obtain ⟨ad, c, h⟩ := reps_name t ht hg h
  exact k ad c a w h
theorem TL.name {ops : Array Oper} {Q : Exit → Act → World → Prop} {rest : List Oper} (t : Nat) {g n sz T : Nat} {cs : List DV} (ht : L t = some (.ow g n sz)) (hg : Γ g = some (.row T sz cs)) (k : ∀ ad c, TL P C ops Q rest (upd L t (.d (.v (.slice ad n c)))) (upd Γ g (.nrow (.slice ad n c) n T sz cs))) : TL P C ops Q rest L Γ := fun a w h => by
  obtain ⟨ad, c, h⟩ := reps_name t ht hg h
  exact k ad c a w h
theorem repL_set {K : Nat → Prop} {u : Value} {X : DV} (hX : X.rep K w u) : ∀ {ds : List DV} {us : List Value} {i : Nat}, repL K w ds us → ds[i]? = some (.v u) → repL K w (ds.set i X) us
  | [], us, i, h, hi => by simp at hi
  | Y :: Ys, us, 0, h, hi => by
    unfold repL at h
    obtain ⟨v, t, rfl, h1, h2⟩ := h
    simp at hi; subst hi
    rw [List.set_cons_zero]; unfold repL
    exact ⟨v, t, rfl, by rw [v_rep h1]; exact hX, h2⟩
  | Y :: Ys, us, i + 1, h, hi => by
    unfold repL at h
    obtain ⟨v, t, rfl, h1, h2⟩ := h
    rw [List.set_cons_succ]; unfold repL
    exact ⟨v, t, rfl, h1, repL_set hX h2 (by simpa using hi)⟩
end
end Go.Proofs.Yteapoemockimfaa.Pl
end

