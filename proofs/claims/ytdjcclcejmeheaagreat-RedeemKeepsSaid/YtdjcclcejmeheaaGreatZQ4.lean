import Derived.Test.YtdjcclcejmeheaaGreatZQ2
import Derived.Lib.Overlaps
/-
  A logic of walks: a row that is given away and comes back, as it was or grown: capacities, copies, overlaps, the contract. A logic of walks: appends to a row that was given, in its room or into a new one; overlaps; the contract of giving a row away. A logic of walks: a row that is given away and comes back, as it was or grown: the contract; overlaps of apart slices. A logic of walks: rows of one's own whose slice lies in a box: the slice's value is named.
-/
section
namespace Go.Proofs.YtdjcclcejmeheaaGreat.Pl
set_option linter.unusedVariables false
set_option linter.unusedSimpArgs false
open Go.RowKit
/-- The room of the block that is lent. -/
def CapM (C : Cx) (sz c : Nat) : Prop := ∀ b, C.M 0 = some (some b) → bsz C.w0 b = c * sz ∧ b < C.w0.heap.size
section
variable {P : Program} {C : Cx} {L : Lo} {Γ : Ga} {d : Nat} {ty : TypeId} {pos : String} {af : Array Edge} {gd : Option (Nat × Bool)}
theorem run_copy_rows {w : World} {dT sT ty e sz g o dLen dCap : Nat} {a : Addr} {sLen sCap : Nat} {us : List Value} {T : TypeId} {cs : List Value} (hu : P.underlying dT = some (.slice e)) {i : TypeInfo} (hi : P.info? e = some i) (hsz : i.size = sz)
    (hg : w.heap[g]? = some (.cells us.toArray T (0, 0))) (hl : cs.length = Nat.min sLen dLen * sz) (hsrc : ∀ j v, cs[j]? = some v → w.cell? (a.add j) = some v) (hfit : o + cs.length ≤ us.length) (h1 : ∀ v ∈ cs, v.oneCell' = true) :
    (Builtin.copy_ #[dT, sT] ty #[.slice (some ⟨g, o, none⟩) dLen dCap, .slice (some a) sLen sCap]).run P w = .ok (goInt (Nat.min sLen dLen)) (w.setRow g (splice us o cs).toArray) := by
  have hfc := run_firstCells_some (P := P) w sz (Nat.min sLen dLen) a sLen sCap cs hl hsrc
  obtain ⟨s1, _⟩ := heap_row_turn (P := P) hg hfit h1
  simp [Builtin.copy_, run_underlying hu, Builtin.lenOf, sizeOf, typeInfo, hi, hsz, hfc, s1]
theorem splice_take' {α : Type} {us vs : List α} {off n : Nat} (h : off ≤ n) (hn : n ≤ us.length) : (splice us off vs).take (splice (us.take n) off vs).length = splice (us.take n) off vs := by
  have e1 : (us.take n).take off = us.take off := by rw [List.take_take, Nat.min_eq_left h]
  unfold splice
  rw [e1]
  have hle : (us.take off).length = off := by simp; omega
  rw [List.append_assoc, List.append_assoc, List.take_append, List.take_append]
  simp only [List.length_append, List.length_drop, List.length_take]
  rw [List.take_of_length_le (l := us.take off) (by simp only [List.length_take]; omega), List.take_of_length_le (l := vs) (by omega)]
  congr 2
  have : (us.take n).drop (off + vs.length) = (us.drop (off + vs.length)).take (n - (off + vs.length)) := by rw [List.drop_take]
  rw [this]
  congr 1
  omega
theorem splice_rep' {K : Nat → Prop} {w : World} {cs ds : List DV} {us vs : List Value} {off n : Nat} (hn : cs.length = n) (h : off ≤ n) (hu : n ≤ us.length) (hr : repL K w cs (us.take n)) (hd : repL K w ds vs) : (splice cs off ds).length = (splice (us.take n) off vs).length ∧ repL K w (splice cs off ds) ((splice us off vs).take (splice cs off ds).length) := by
  have hl := repL_length hd
  have e : (splice cs off ds).length = (splice (us.take n) off vs).length := by
    unfold splice; simp only [List.length_append, List.length_take, List.length_drop, hn, hl]; omega
  refine ⟨e, ?_⟩
  rw [e, splice_take' h hu]
  exact splice_rep off hr hd
end
end Go.Proofs.YtdjcclcejmeheaaGreat.Pl
end
section
namespace Go.Proofs.YtdjcclcejmeheaaGreat.Pl
set_option linter.unusedVariables false
set_option linter.unusedSimpArgs false
open Go.RowKit
/-- The room, nothing for nothing. -/
def CapN (C : Cx) (sz c : Nat) : Prop := CapM C sz c ∧ (C.M 0 = some none → c = 0)
section
variable {P : Program} {C : Cx} {L : Lo} {Γ : Ga} {d : Nat} {ty : TypeId} {pos : String} {af : Array Edge} {gd : Option (Nat × Bool)}
end
end Go.Proofs.YtdjcclcejmeheaaGreat.Pl
end
section
namespace Go.Proofs.YtdjcclcejmeheaaGreat.Pl
set_option linter.unusedVariables false
set_option linter.unusedSimpArgs false
open Go.RowKit
/-- What comes back of a row that was given away. -/
def Gave (e sz : Nat) (cs' : List DV) (n' : Nat) (w : World) (ob : Option Nat) (u : Value) (w' : World) : Prop := ∃ ob', Kept (fun b => ob = some b) w w' ∧ (∀ b, ob' = some b → (ob = some b ∨ w.heap.size ≤ b) ∧ b < w'.heap.size) ∧ (∀ K', (AO.row e sz cs').rep K' w' ob') ∧ ∀ ρ g K B, ρ g = some ob' → (AV.ow g n' sz).rep ρ K B w' u
/-- A contract: the row is given away; what comes back is it, turned, or a new one. -/
def PA (P : Program) (f : FuncId) (As : List AV) (e sz : Nat) (cs cs' : List DV) (n' : Nat) : Prop := ∀ w K ob us, (∀ b, K b → b < w.heap.size ∧ ob ≠ some b) → (∀ b, ob = some b → b < w.heap.size) → (AO.mrow 0 e sz cs).rep (KM K ob) w ob → repsA (one ob) (KM K ob) w.heap.size w As us →
  Calls P f us.toArray w fun r w' => ∃ u, r = .returned u ∧ Gave e sz cs' n' w ob u w'
theorem PA.enter {P : Program} {f : FuncId} {fn : Func} {c : Code} {As : List AV} {e sz n' : Nat} {cs cs' : List DV} (hf : P.funcs[f]? = some fn) (hb : fn.body = some c) {nt : Nat} (hnt : fn.ntmps = nt) (hn : Nat.ble As.length nt = true) (hids : (As.all fun A => match A.id with | none => true | some g => Nat.beq g 0) = true)
    (h : ∀ w K ob cp, CapN ⟨w, K, nt, one ob⟩ sz cp → cp ≤ maxLen → TC P ⟨w, K, nt, one ob⟩ c (bodyPost P fn fun r w' => ∃ u, r = .returned u ∧ Gave e sz cs' n' w ob u w') (argA As) (G1 (.mrow 0 e sz cs))) : PA P f As e sz cs cs' n' := by
  intro w K ob us hK hlt ho hr
  subst hnt
  have hlen := repsA_length hr
  have hcap : ∃ cp, CapN ⟨w, K, fn.ntmps, one ob⟩ sz cp ∧ cp ≤ maxLen := by
    rcases ho with ⟨rfl, _⟩ | ⟨b, vs, cap, rfl, q1, q2, q3, _⟩
    · exact ⟨0, ⟨fun b hb => (by have := (one_some (g := 0) (ob := none) (x := some b) hb).2; cases this), fun _ => rfl⟩, by unfold maxLen; omega⟩
    · refine ⟨cap, ⟨fun b' hb => ?_, fun hb => (by have := (one_some (g := 0) (ob := some b) (x := none) hb).2; cases this)⟩, q3⟩
      have := (one_some (g := 0) (ob := some b) (x := some b') hb).2; cases this
      refine ⟨?_, hlt b rfl⟩
      show bsz w b = _
      unfold bsz; rw [q1]; simpa using q2
  obtain ⟨cp, hcp, hcm⟩ := hcap
  refine calls_of_wp hf hb (h w K ob cp hcp hcm _ _ ⟨one ob, ?_⟩)
  have hKK : KK K (one ob) (G1 (.mrow 0 e sz cs)) = KM K ob := KM_eq (by simp)
  refine ⟨rfl, by simp at hn ⊢; omega, fun b hb => ⟨(hK b hb).1, fun ⟨k, e⟩ => (hK b hb).2 (one_some e).2.symm⟩, Kept.refl _ _, fun g hg => ?_, fun t X g ht hg => ?_, fun g b e => hlt b (one_some e).2.symm, fun g g' b e e' _ _ => by rw [(one_some e).1, (one_some e').1],
    fun g b o e _ hkey _ => ?_, fun g o k ob' e hkey hob => ?_, fun g o e _ => ?_, fun t X ht => ?_⟩
  · cases hb : Nat.beq g 0 with
    | false => simp [one, hb]
    | true => rw [Nat.beq_eq] at hb; subst hb; exact absurd ⟨_, by simp [G1, upd]; rfl, by simp⟩ hg
  · have := List.all_eq_true.1 hids X (List.mem_of_getElem? ht)
    rw [hg] at this
    rw [Nat.beq_eq] at this; subst this
    simp [G1, upd]
  · obtain ⟨_, rfl⟩ := G1_some e
    cases hkey
  · obtain ⟨rfl, rfl⟩ := G1_some e
    cases hkey
    exact hob
  · obtain ⟨rfl, rfl⟩ := G1_some e
    exact ⟨ob, by simp [one], by rw [hKK]; exact ho⟩
  · obtain ⟨u, h1, h2⟩ := repsA_get hr ht
    have htl : t < us.length := (List.getElem?_eq_some_iff.1 h1).1
    have : (us.toArray ++ Array.replicate (fn.ntmps - us.toArray.size) undef).getD t undef = u := by
      rw [Array.getD_eq_getD_getElem?, Array.getElem?_append_left (by simpa using htl)]
      simp [h1]
    show AV.rep _ _ _ w X _
    rw [hKK]
    have e2 : (({ tmps := us.toArray ++ Array.replicate (fn.ntmps - us.toArray.size) undef, defers := [] } : Act).tmps).getD t undef = u := this
    rw [e2]
    exact h2
section
variable {P : Program} {C : Cx} {L : Lo} {Γ : Ga}
end
section
variable {P : Program} {C : Cx} {L : Lo} {Γ : Ga} {d : Nat} {ty : TypeId} {pos : String} {af : Array Edge} {gd : Option (Nat × Bool)}
end
end Go.Proofs.YtdjcclcejmeheaaGreat.Pl
end
section
namespace Go.Proofs.YtdjcclcejmeheaaGreat.Pl
set_option linter.unusedVariables false
set_option linter.unusedSimpArgs false
open Go.RowKit
section
variable {P : Program} {C : Cx} {L : Lo} {Γ : Ga} {ρ : Rho} {a : Act} {w : World}
/-- A slot is told anew. -/
theorem RepsAt.tell (h : RepsAt C ρ L Γ a w) (t : Nat) (Y : AV) (hY : Y.rep ρ (KK C.K0 ρ Γ) C.w0.heap.size w (a.tmps.getD t undef)) (hi : ∀ g, Y.id = some g → Γ g ≠ none) : RepsAt C ρ (upd L t Y) Γ a w := by
  refine ⟨h.df, h.sz, h.k0, h.fr, h.dom, fun s X g hs hg => ?_, h.lt, h.inj, h.new, h.len, h.obj, fun s X hs => ?_⟩
  · rcases upd_some hs with ⟨rfl, rfl⟩ | ⟨_, hs⟩
    · exact hi g hg
    · exact h.ment s X g hs hg
  · rcases upd_some hs with ⟨rfl, rfl⟩ | ⟨_, hs⟩
    · exact hY
    · exact h.slot s X hs
theorem v_rep {K : Nat → Prop} {w : World} {u x : Value} (h : (DV.v u).rep K w x) : x = u := by unfold DV.rep at h; exact h
/-- A row is named: its slice's value becomes a letter. -/
theorem reps_name (t : Nat) {g n sz T : Nat} {cs : List DV} (ht : L t = some (.ow g n sz)) (hg : Γ g = some (.row T sz cs)) (h : Reps C L Γ a w) : ∃ ad c, Reps C (upd L t (.d (.v (.slice ad n c)))) (upd Γ g (.nrow (.slice ad n c) n T sz cs)) a w := by
  obtain ⟨ρ, h⟩ := h
  obtain ⟨ob, h1, h2⟩ := h.obj g _ hg (by simp)
  have hs := h.slot t _ ht ob h1
  have hu : ∃ ad c, a.tmps.getD t undef = .slice ad n c := by
    rcases hs with ⟨_, hu, rfl⟩ | ⟨b, c, _, hu, _⟩
    · exact ⟨_, _, hu⟩
    · exact ⟨_, _, hu⟩
  obtain ⟨ad, c0, hu⟩ := hu
  refine ⟨ad, c0, ρ, ?_⟩
  rw [← hu]
  have hr : (AO.nrow (a.tmps.getD t undef) n T sz cs).rep (KK C.K0 ρ Γ) w ob := by
    rcases hs with ⟨e, hu, hn⟩ | ⟨b, c, e, hu, k1, k2, k3⟩
    · subst e
      rcases h2 with ⟨_, q⟩ | ⟨b', _, _, q, _⟩
      · exact .inl ⟨rfl, hu, hn, q⟩
      · cases q
    · subst e
      rcases h2 with ⟨q, _⟩ | ⟨b', us, cap, q, q1, q2, q3, q4, q5, q6⟩
      · cases q
      · cases q
        refine .inr ⟨b, us, c, rfl, hu, k1, q1, ?_, k2, q4, q5, q6⟩
        rw [k3]; unfold bsz; rw [q1]; simp
  have h' := h.lent hg (by simp) h1 (Kept.refl _ w) (o' := .nrow (a.tmps.getD t undef) n T sz cs) (by simp) rfl hr
  exact h'.tell t _ (by show DV.rep _ _ _ _; unfold DV.rep; rfl) (fun g' e => by simp [AV.id] at e)
theorem TE.name {R : Act → World → Prop} (t : Nat) {g n sz T : Nat} {cs : List DV} (ht : L t = some (.ow g n sz)) (hg : Γ g = some (.row T sz cs)) (k : ∀ ad c, TE C R (upd L t (.d (.v (.slice ad n c)))) (upd Γ g (.nrow (.slice ad n c) n T sz cs))) : TE C R L Γ := fun a w h => by
  obtain ⟨ad, c, h⟩ := reps_name t ht hg h
  exact k ad c a w h
theorem TL.name {ops : Array Oper} {Q : Exit → Act → World → Prop} {rest : List Oper} (t : Nat) {g n sz T : Nat} {cs : List DV} (ht : L t = some (.ow g n sz)) (hg : Γ g = some (.row T sz cs)) (k : ∀ ad c, TL P C ops Q rest (upd L t (.d (.v (.slice ad n c)))) (upd Γ g (.nrow (.slice ad n c) n T sz cs))) : TL P C ops Q rest L Γ := fun a w h => by
  obtain ⟨ad, c, h⟩ := reps_name t ht hg h
  exact k ad c a w h
theorem nrow_ow {K : Nat → Prop} {u : Value} {n T sz : Nat} {cs : List DV} {g : Nat} {ob : Option Nat} (h : (AO.nrow u n T sz cs).rep K w ob) (h1 : ρ g = some ob) (K' : Nat → Prop) (B : Nat) : (AV.ow g n sz).rep ρ K' B w u := fun ob' hob => by
  rw [h1] at hob; cases hob
  rcases h with ⟨rfl, rfl, rfl, _⟩ | ⟨b, us, c, rfl, rfl, k1, q1, q2, q3, _⟩
  · exact .inl ⟨rfl, rfl, rfl⟩
  · refine .inr ⟨b, c, rfl, rfl, k1, q3, ?_⟩
    unfold bsz; rw [q1]; simpa using q2.symm
theorem evv_slot (h : RepsAt C ρ L Γ a w) {t : Nat} {u : Value} (ht : evv L (.tmp t) = some u) : a.tmps.getD t undef = u := evv_eval h ht
/-- A slot that holds a named row's slice. -/
theorem reps_asow (t g : Nat) {u : Value} {n sz T : Nat} {cs : List DV} (ht : evv L (.tmp t) = some u) (hg : Γ g = some (.nrow u n T sz cs)) (h : Reps C L Γ a w) : Reps C (upd L t (.ow g n sz)) Γ a w := by
  obtain ⟨ρ, h⟩ := h
  obtain ⟨ob, h1, h2⟩ := h.obj g _ hg (by simp)
  refine ⟨ρ, h.tell t _ ?_ (fun g' e => by simp only [AV.id, Option.some.injEq] at e; subst e; rw [hg]; simp)⟩
  rw [evv_slot h ht]
  exact nrow_ow h2 h1 _ _
theorem TE.asow {R : Act → World → Prop} (t g : Nat) {u : Value} {n sz T : Nat} {cs : List DV} (ht : evv L (.tmp t) = some u) (hg : Γ g = some (.nrow u n T sz cs)) (k : TE C R (upd L t (.ow g n sz)) Γ) : TE C R L Γ := fun a w h => k a w (reps_asow t g ht hg h)
theorem TL.asow {ops : Array Oper} {Q : Exit → Act → World → Prop} {rest : List Oper} (t g : Nat) {u : Value} {n sz T : Nat} {cs : List DV} (ht : evv L (.tmp t) = some u) (hg : Γ g = some (.nrow u n T sz cs)) (k : TL P C ops Q rest (upd L t (.ow g n sz)) Γ) : TL P C ops Q rest L Γ := fun a w h => k a w (reps_asow t g ht hg h)
theorem reps_unn (g : Nat) {u : Value} {n sz T : Nat} {cs : List DV} (hg : Γ g = some (.nrow u n T sz cs)) (h : Reps C L Γ a w) : Reps C L (upd Γ g (.row T sz cs)) a w := by
  obtain ⟨ρ, h⟩ := h
  obtain ⟨ob, h1, h2⟩ := h.obj g _ hg (by simp)
  exact ⟨ρ, h.lent hg (by simp) h1 (Kept.refl _ w) (by simp) rfl (nrow_row h2)⟩
theorem TE.unn {R : Act → World → Prop} (g : Nat) {u : Value} {n sz T : Nat} {cs : List DV} (hg : Γ g = some (.nrow u n T sz cs)) (k : TE C R L (upd Γ g (.row T sz cs))) : TE C R L Γ := fun a w h => k a w (reps_unn g hg h)
theorem TL.unn {ops : Array Oper} {Q : Exit → Act → World → Prop} {rest : List Oper} (g : Nat) {u : Value} {n sz T : Nat} {cs : List DV} (hg : Γ g = some (.nrow u n T sz cs)) (k : TL P C ops Q rest L (upd Γ g (.row T sz cs))) : TL P C ops Q rest L Γ := fun a w h => k a w (reps_unn g hg h)
/-- An element of a named row, by the row's value. -/
theorem OT.idxn {t e n sz g d : Nat} {x y : Operand} {k : IntKind} {i : Int} {u : Value} {T : TypeId} {cs : List DV} {ty : TypeId} {pos : String} {af : Array Edge} {gd : Option (Nat × Bool)} (hn : Nat.blt d C.n = true) (hx : evv L x = some u) (hy : evv L y = some (.int k i)) (hg : Γ g = some (.nrow u n T sz cs)) (ht : elt P t = some (e, sz)) (h0 : 0 ≤ i) (h1 : i < n) :
    OT P C ⟨some d, .indexAddr t x y, ty, pos, af, gd⟩ L Γ (upd L d (.ptr g (i.toNat * sz))) Γ :=
  OT.value hn (fun g' hg' ρ a w h => by simp only [AV.id, Option.some.injEq] at hg'; subst hg'; rw [hg]; simp) fun ρ a w h => by
    obtain ⟨ob, h3, h4⟩ := h.obj g _ hg (by simp)
    rcases h4 with ⟨_, _, h2, _⟩ | ⟨b, us, c, rfl, h2, _⟩
    · omega
    · obtain ⟨hu, j, hi, hj⟩ := elt_parts ht
      have hi2 : 0 ≤ i ∧ i < (n : Int) := ⟨h0, h1⟩
      exact ⟨.pointer (some ⟨b, i.toNat * sz, none⟩), by simp [execOp, evv_eval h hx, h2, evv_eval h hy, Instr.indexAt, run_underlying hu, asIntOf, hi2, sizeOf, typeInfo, hi, hj, addr_add], fun ob' h5 => by rw [h3] at h5; cases h5; exact ⟨b, rfl, rfl⟩⟩
theorem reps_killn {g : Nat} {u : Value} {n T sz : Nat} {cs : List DV} (hg : Γ g = some (.nrow u n T sz cs)) (hl : cs.length = n * sz) (h : RepsAt C ρ L Γ a w) : ∃ ρ', RepsAt C ρ' L (upd Γ g .dead) a w ∧ (DV.sl sz n cs).rep (KK C.K0 ρ' (upd Γ g .dead)) w u := by
  obtain ⟨ob, h1, h2⟩ := h.obj g _ hg (by simp)
  classical
  let ρ' : Rho := fun x => if x = g then none else ρ x
  have r1 : ∀ x y, ρ' x = some y → x ≠ g ∧ ρ x = some y := fun x y hx => by
    by_cases e : x = g
    · simp [ρ', e] at hx
    · simp [ρ', e] at hx; exact ⟨e, hx⟩
  have hlv : ∀ x, live (upd Γ g .dead) x → x ≠ g ∧ live Γ x := fun x ⟨o, p, q⟩ => by
    rcases upd_some p with ⟨_, e⟩ | ⟨hne, p⟩
    · exact absurd e q
    · exact ⟨hne, o, p, q⟩
  have hk : Keeps (KK C.K0 ρ Γ) (KK C.K0 ρ' (upd Γ g .dead)) w w := fun b hb hn => ⟨rfl, hb, fun x => hn (x.elim .inl fun ⟨x, p, q⟩ => .inr ⟨x, (hlv x p).2, (r1 x _ q).2⟩)⟩
  refine ⟨ρ', ⟨h.df, h.sz, h.k0, h.fr, fun x hx => ?_, fun s X x hs hX => ?_, fun x b hb => h.lt x b (r1 x _ hb).2, fun x y b p q l1 l2 => h.inj x y b (r1 x _ p).2 (r1 y _ q).2 (hlv x l1).2 (hlv y l2).2, fun x b o k1 k2 k3 p => (upd_some k1).elim (fun e => absurd e.2 k2) (fun e => h.new x b o e.2 k2 k3 (r1 x _ p).2), fun x o k ob' k1 k3 p => (upd_some k1).elim (fun e => by rw [e.2] at k3; cases k3) (fun e => h.len x o k ob' e.2 k3 (r1 x _ p).2), fun x o p q => ?_, fun s X hs => ?_⟩, ?_⟩
  · by_cases e : x = g
    · simp [ρ', e]
    · have : ¬ live Γ x := fun ⟨o, p, q⟩ => hx ⟨o, by rw [upd_other _ _ _ _ e]; exact p, q⟩
      simp [ρ', e, h.dom x this]
  · by_cases e : x = g
    · subst e; rw [upd_same]; simp
    · rw [upd_other _ _ _ _ e]; exact h.ment s X x hs hX
  · rcases upd_some p with ⟨_, e⟩ | ⟨hne, p⟩
    · exact absurd e q
    · obtain ⟨oo, k1, k2⟩ := h.obj x o p q
      exact ⟨oo, by simp [ρ', hne, k1], AO.rep_mono hk (fun _ _ => rfl) o k2⟩
  · have hX := h.slot s X hs
    cases X with
    | d X => exact DV.rep_mono hk X _ hX
    | f X => exact DV.rep_mono (hk.widen (J := fun b => b < C.w0.heap.size)) X _ hX
    | ptr x o => exact fun ob hob => hX ob (r1 x _ hob).2
    | bs x o n s => exact fun ob hob => hX ob (r1 x _ hob).2
    | ow x n s => exact fun ob hob => hX ob (r1 x _ hob).2
  · unfold DV.rep
    have hrow := nrow_row h2
    rcases h2 with ⟨rfl, rfl, rfl, rfl⟩ | ⟨b, us, c, rfl, rfl, k2, k3, k4, k5, _⟩
    · exact .inl ⟨rfl, rfl, rfl⟩
    · refine .inr ⟨b, 0, c, rfl, k2, k5, hl, .inr ⟨h.lt g b h1, ?_⟩, ?_⟩
      · rintro (x | ⟨x, p, q⟩)
        · have k0 := h.k0 b x; have := k0.1; have := h.new g b _ hg (by simp) rfl h1; omega
        · exact (hlv x p).1 (h.inj x g b (r1 x _ q).2 h1 (hlv x p).2 ⟨_, hg, by simp⟩)
      · obtain ⟨us', q1, q2, q3⟩ := repAt_vals (row_cells hrow)
        exact repAt_of_cells (repL_mono hk _ _ q1) q2 q3
/-- A slot that holds a named row's slice is let go. -/
theorem reps_frzn (t g : Nat) {u : Value} {n T sz : Nat} {cs : List DV} (ht : evv L (.tmp t) = some u) (hg : Γ g = some (.nrow u n T sz cs)) (hl : cs.length = n * sz) (h : Reps C L Γ a w) : Reps C (upd L t (.d (.sl sz n cs))) (upd Γ g .dead) a w := by
  obtain ⟨ρ, h⟩ := h
  have e := evv_slot h ht
  obtain ⟨ρ', h', hr⟩ := reps_killn hg hl h
  exact ⟨ρ', h'.tell t _ (by rw [e]; exact hr) (fun g' e => by simp [AV.id] at e)⟩
theorem TE.frzn {R : Act → World → Prop} (t g : Nat) (Y : DV) {u : Value} {n T sz : Nat} {cs : List DV} (ht : evv L (.tmp t) = some u) (hg : Γ g = some (.nrow u n T sz cs)) (hl : cs.length = n * sz) (he : DV.sl sz n cs = Y) (k : TE C R (upd L t (.d Y)) (upd Γ g .dead)) : TE C R L Γ := fun a w h => by subst he; exact k a w (reps_frzn t g ht hg hl h)
theorem TL.frzn {ops : Array Oper} {Q : Exit → Act → World → Prop} {rest : List Oper} (t g : Nat) (Y : DV) {u : Value} {n T sz : Nat} {cs : List DV} (ht : evv L (.tmp t) = some u) (hg : Γ g = some (.nrow u n T sz cs)) (hl : cs.length = n * sz) (he : DV.sl sz n cs = Y) (k : TL P C ops Q rest (upd L t (.d Y)) (upd Γ g .dead)) : TL P C ops Q rest L Γ := fun a w h => by subst he; exact k a w (reps_frzn t g ht hg hl h)
theorem repL_set {K : Nat → Prop} {u : Value} {X : DV} (hX : X.rep K w u) : ∀ {ds : List DV} {us : List Value} {i : Nat}, repL K w ds us → ds[i]? = some (.v u) → repL K w (ds.set i X) us
  | [], us, i, h, hi => by simp at hi
  | Y :: Ys, us, 0, h, hi => by
    unfold repL at h
    obtain ⟨v, t, rfl, h1, h2⟩ := h
    simp at hi; subst hi
    rw [List.set_cons_zero]; unfold repL
    exact ⟨v, t, rfl, by rw [v_rep h1]; exact hX, h2⟩
  | Y :: Ys, us, i + 1, h, hi => by
    unfold repL at h
    obtain ⟨v, t, rfl, h1, h2⟩ := h
    rw [List.set_cons_succ]; unfold repL
    exact ⟨v, t, rfl, h1, repL_set hX h2 (by simpa using hi)⟩
/-- A box whose cell holds a named row's slice: the row is let go, the cell reads as data. -/
theorem reps_cellf (g2 off g : Nat) {T2 : TypeId} {ds : List DV} {u : Value} {n T sz : Nat} {cs : List DV} (h2 : Γ g2 = some (.box T2 ds)) (hd : ds[off]? = some (.v u)) (hg : Γ g = some (.nrow u n T sz cs)) (hl : cs.length = n * sz) (h : Reps C L Γ a w) : Reps C L (upd (upd Γ g .dead) g2 (.box T2 (ds.set off (.sl sz n cs)))) a w := by
  obtain ⟨ρ, h⟩ := h
  obtain ⟨ρ', h', hr⟩ := reps_killn hg hl h
  have hne : g2 ≠ g := fun e => by subst e; rw [h2] at hg; cases hg
  have h2' : upd Γ g .dead g2 = some (.box T2 ds) := by rw [upd_other _ _ _ _ hne]; exact h2
  obtain ⟨ob, k1, k2⟩ := h'.obj g2 _ h2' (by simp)
  refine ⟨ρ', h'.lent h2' (by simp) k1 (Kept.refl _ w) (by simp) rfl ?_⟩
  obtain ⟨b, us, e, q1, q2, q3⟩ := k2
  exact ⟨b, us, e, q1, repL_set hr q2 hd, q3⟩
end
end Go.Proofs.YtdjcclcejmeheaaGreat.Pl
end

