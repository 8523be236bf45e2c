import Derived.Test.YtdjcclcejmeheaaGreatZFc
/-
  A logic of walks: copies into a box; nil checks; calls that hand back a new box.
-/
namespace Go.Proofs.YtdjcclcejmeheaaGreat.Pl
set_option linter.unusedVariables false
set_option linter.unusedSimpArgs false
open Go.RowKit
section
variable {P : Program} {C : Cx} {L : Lo} {Γ : Ga} {d : Nat} {ty : TypeId} {pos : String} {af : Array Edge} {gd : Option (Nat × Bool)}
theorem OT.copyb {dT sT e sz g off m : Nat} {nd ns : Nat} {x y : Operand} {o : AO} {cs ds : List DV} {A : AV} (hn : Nat.blt d C.n = true) (hx : ev L x = some (.bs g off nd sz)) (hg : Γ g = some o) (ho : o.cells = some cs) (hy : ev L y = some A) (hA : rdv Γ A = some (.sl sz ns ds)) (hok : okr Γ A) (ht : elt P dT = some (e, sz)) (hm : Nat.min ns nd = m) (hoff : off + m * sz ≤ cs.length) :
    OT P C ⟨some d, .call { callee := .builtin .copy, args := #[x, y], argTypes := #[dT, sT] }, ty, pos, af, gd⟩ L Γ (upd L d (.f (.v (.int .i64 m)))) (upd Γ g (o.re (splice cs off (ds.take (m * sz))))) :=
  OT.turns fun ρ a w h => by
    have hd : o ≠ .dead := by rintro rfl; simp [AO.cells] at ho
    have hoff' : off ≤ cs.length := by omega
    have hlen2 : (splice cs off (ds.take (m * sz))).length = cs.length := splice_length (by rw [List.length_take]; omega)
    obtain ⟨ob, hb, hrep⟩ := h.obj g _ hg hd
    obtain ⟨b, c, e', hv, k2, k3, k4⟩ := ev_rep h hx _ hb
    cases e'
    obtain ⟨hu, j, hi, hj⟩ := elt_parts ht
    obtain ⟨us, T, q1, q0, q2, q3, back⟩ := AO.vals ho hrep
    have hbs : bsz w b = us.length := by unfold bsz; rw [q1]; simp
    have fin : ∀ (vs : List Value) (w' : World), (execOp a.eval ⟨some d, .call { callee := .builtin .copy, args := #[x, y], argTypes := #[dT, sT] }, ty, pos, af, gd⟩).run P w = .ok (.value (.int .i64 m)) (w.setRow b (splice us off vs).toArray) → repL (KK C.K0 ρ Γ) w (ds.take (m * sz)) vs → (∀ v ∈ vs, v.oneCell' = true) → off + vs.length ≤ us.length →
        ∃ u w', (execOp a.eval ⟨some d, .call { callee := .builtin .copy, args := #[x, y], argTypes := #[dT, sT] }, ty, pos, af, gd⟩).run P w = .ok (.value u) w' ∧ Reps C (upd L d (.f (.v (.int .i64 m)))) (upd Γ g (o.re (splice cs off (ds.take (m * sz))))) (a.put (some d) u) w' := fun vs _ hrun hvs h1 hfit => by
      obtain ⟨_, s2, s3, s4⟩ := heap_row_turn (P := P) q1 hfit h1
      have hk : Keeps (KK C.K0 ρ Γ) (KK C.K0 ρ Γ) w (w.setRow b (splice us off vs).toArray) := fun b' hb' hn => ⟨s3.block b' hb' (fun e => hn (.inr ⟨g, ⟨_, hg, hd⟩, by rw [hb]; cases e; rfl⟩)), Nat.lt_of_lt_of_le hb' s3.size, hn⟩
      obtain ⟨e1, e2⟩ := splice_rep' (off := off) rfl hoff' q0 q2 hvs
      refine ⟨_, _, hrun, ρ, (h.turn ⟨_, hg, hd⟩ hb s3 s4 (AO.re_dead _ _ hd) (fun o' ho' => by rw [hg] at ho'; cases ho'; exact (AO.re_key _ _).symm) (back _ _ _ _ s2 (splice_length hfit) hlen2 (by rw [← hlen2]; exact repL_mono hk _ _ e2) (by rw [← hlen2, e1, splice_take' hoff' q0]; exact splice_mem q3 h1))).put (by simpa using hn) (by unfold AV.rep DV.rep; rfl) (fun g' hg' => by simp [AV.id] at hg')⟩
    rcases src_vals h hy hA hok with ⟨hyv, rfl, rfl⟩ | ⟨b2, o2, c2, vs, hyv, v1, v2, v3, v4⟩
    · have hm0 : m = 0 := by rw [← hm]; simp
      subst hm0
      refine fin [] w ?_ (by simp [repL]) (by simp) (by have := AO.vals ho hrep; rw [← hbs]; exact Nat.le_trans (Nat.le_add_right _ _) k4)
      have e0 : splice us off ([] : List Value) = us := by unfold splice; simp
      rw [e0]
      have es : w.setRow b us.toArray = w := setRow_self w b us.toArray T (0, 0) q1
      rw [es]
      have hfc := run_firstCells_none (P := P) w sz 0 0 0
      simp [execOp, resolve, invoke, builtin, hv, hyv, Builtin.copy_, run_underlying hu, Builtin.lenOf, sizeOf, typeInfo, hi, hj, hfc, storeCells, goInt]
    · have hmle : m ≤ ns ∧ m ≤ nd := by rw [← hm]; exact ⟨Nat.min_le_left _ _, Nat.min_le_right _ _⟩
      have hl : (vs.take (m * sz)).length = m * sz := by rw [List.length_take, v2]; exact Nat.min_eq_left (Nat.mul_le_mul_right _ hmle.1)
      have hfit : off + (vs.take (m * sz)).length ≤ us.length := by
        rw [hl, ← hbs]
        exact Nat.le_trans (Nat.add_le_add_left (Nat.mul_le_mul_right _ (Nat.le_trans hmle.2 k2)) _) k4
      have h1 : ∀ v ∈ vs.take (m * sz), v.oneCell' = true := fun v hv' => v4 v (List.mem_of_mem_take hv')
      have hr2 := run_copy_rows (P := P) (w := w) (dT := dT) (sT := sT) (ty := ty) (dLen := nd) (dCap := c) (sLen := ns) (sCap := c2) (cs := vs.take (m * sz)) (a := ⟨b2, o2, none⟩) hu hi hj q1 (by rw [hl, ← hm]) (fun j v hj' => v3 j v (by
        rw [List.getElem?_take] at hj'
        split at hj'
        · exact hj'
        · cases hj')) hfit h1
      refine fin (vs.take (m * sz)) w ?_ (repL_take _ v1) h1 hfit
      simp only [execOp, resolve, invoke, builtin, Sem.run_bind, Sem.run_pure, Result.andThen_ok, List.map_toArray, List.map_cons, List.map_nil, hv, hyv, hr2, hm, goInt]
end
/-- A contract of a call that hands back a new box. -/
def PB (P : Program) (f : FuncId) (Xs : List DV) (T : TypeId) (cs : List DV) : Prop := ∀ w us, repL noK w Xs us → Calls P f us.toArray w fun r w' => ∃ b vs, r = .returned (.pointer (some ⟨b, 0, none⟩)) ∧ Below w.heap.size w w' ∧ w.heap.size ≤ b ∧ w'.heap[b]? = some (.cells vs.toArray T (0, 0)) ∧ (∀ u ∈ vs, u.oneCell' = true) ∧ ∀ K, (∀ b', K b' → b' < w.heap.size ∨ b' = b) → repL K w' cs vs
theorem PB.enter {P : Program} {f : FuncId} {fn : Func} {c : Code} {Xs : List DV} {T : TypeId} {cs : List DV} (hf : P.funcs[f]? = some fn) (hb : fn.body = some c) {nt : Nat} (hnt : fn.ntmps = nt) (hn : Nat.ble Xs.length nt = true)
    (h : ∀ w, TC P ⟨w, noK, nt, noM⟩ c (bodyPost P fn fun r w' => ∃ b vs, r = .returned (.pointer (some ⟨b, 0, none⟩)) ∧ Below w.heap.size w w' ∧ w.heap.size ≤ b ∧ w'.heap[b]? = some (.cells vs.toArray T (0, 0)) ∧ (∀ u ∈ vs, u.oneCell' = true) ∧ ∀ K, (∀ b', K b' → b' < w.heap.size ∨ b' = b) → repL K w' cs vs) (argL Xs) (fun _ => none)) : PB P f Xs T cs := fun w us hr =>
  calls_enter hf hb hnt (by simpa using hn) (fun b hb => hb.elim) hr (h w)
section
variable {P : Program} {C : Cx} {L : Lo} {Γ : Ga} {ty : TypeId} {pos : String} {af : Array Edge} {gd : Option (Nat × Bool)}
theorem OT.callb {d : Nat} {f : FuncId} {xs : List Operand} {at_ : Array TypeId} {Xs : List DV} {T : TypeId} {cs : List DV} (g : Nat) (hn : Nat.blt d C.n = true) (hg : Γ g = none) (hf : cfn P f = true) (hx : evR L Γ xs = some Xs) (hok : okR L Γ xs) (hc : PB P f Xs T cs) :
    OT P C ⟨some d, .call { callee := .value (.func f), args := xs.toArray, argTypes := at_ }, ty, pos, af, gd⟩ L Γ (upd L d (.ptr g 0)) (upd Γ g (.box T cs)) := by
  rintro a w ⟨ρ, h⟩
  unfold Oper.wp
  rw [call_run hf, Oper.upon_enter]
  refine (hc w _ (evR_rep h hx hok)).mono ?_
  rintro r w' ⟨b, vs, rfl, hb, hge, hat, h1, hY⟩
  have hgr : w.grownBy w' none := ⟨hb.os, hb.tape, hb.output, hb.size, fun k hk _ => hb.block k hk⟩
  obtain ⟨ρ', hr, hρ', hk⟩ := h.fresh (g := g) (b := b) (o' := .box T cs) (w' := w') hg hgr ⟨hge, (Array.getElem?_eq_some_iff.1 hat).1⟩ (by simp) rfl
    (fun K hK hb' => ⟨b, vs, rfl, hat, hY K (fun b' k => (hb' b' k).imp id (fun e => by cases e; rfl)), h1⟩)
  refine ⟨ρ', hr.put (by simpa using hn) (fun ob' hob => ?_) (fun g1 hg1 => ?_)⟩
  · rw [hρ'] at hob; cases hob; exact ⟨b, rfl, rfl⟩
  · cases hg1; rw [upd_same]; simp
end
section
variable {P : Program} {C : Cx} {L : Lo} {Γ : Ga}
/-- A block's cells are told in weaker words. -/
theorem reps_objsub {a : Act} {w : World} (g : Nat) {o : AO} {cs : List DV} (cs' : List DV) (hg : Γ g = some o) (ho : o.cells = some cs) (hl : cs'.length = cs.length) (hs : SubL cs cs') (h : Reps C L Γ a w) : Reps C L (upd Γ g (o.re cs')) a w := by
  obtain ⟨ρ, h⟩ := h
  have hd : o ≠ .dead := by rintro rfl; simp [AO.cells] at ho
  obtain ⟨ob, h1, h2⟩ := h.obj g o hg hd
  refine ⟨ρ, h.lent hg hd h1 (Kept.refl _ w) (AO.re_dead _ _ hd) (AO.re_key _ _) ?_⟩
  cases ob with
  | some b =>
    obtain ⟨us, T, k1, k0, k2, k3, back⟩ := AO.vals ho h2
    exact back _ _ us cs' k1 rfl hl (hs _ _ _ k2) k3
  | none =>
    have hc : cs = [] := by
      cases o with
      | dead => exact absurd rfl hd
      | box T c => obtain ⟨b, _, e, _⟩ := h2; cases e
      | mbox k T c => obtain ⟨b, _, e, _⟩ := h2; cases e
      | row T sz c => rcases h2 with ⟨_, e⟩ | ⟨b, _, _, e, _⟩; · simp [AO.cells] at ho; rw [← ho]; exact e
                      · cases e
      | mrow k T sz c => rcases h2 with ⟨_, e⟩ | ⟨b, _, _, e, _⟩; · simp [AO.cells] at ho; rw [← ho]; exact e
                         · cases e
      | nrow u n T sz c => rcases h2 with ⟨_, _, _, e⟩ | ⟨b, _, _, e, _⟩; · simp [AO.cells] at ho; rw [← ho]; exact e
                           · cases e
      | obj b x => simp [AO.cells] at ho
    subst hc
    have e0 : cs' = [] := List.eq_nil_of_length_eq_zero (by simpa using hl)
    subst e0
    cases o <;> simp [AO.cells] at ho <;> subst ho <;> exact h2
theorem TE.objsub {R : Act → World → Prop} (g : Nat) {o : AO} {cs : List DV} (cs' : List DV) (hg : Γ g = some o) (ho : o.cells = some cs) (hl : cs'.length = cs.length) (hs : SubL cs cs') (k : TE C R L (upd Γ g (o.re cs'))) : TE C R L Γ := fun a w h => k a w (reps_objsub g cs' hg ho hl hs h)
theorem TE.retb {fn : Func} {t g off gR : Nat} {T : TypeId} {ds cs cs' : List DV} {u : Value} {n e sz : Nat} {w0 : World} {nn : Nat} (hf : fn.results = #[.tmp t]) (hr : L t = some (.ptr g 0)) (hg : Γ g = some (.box T ds)) (hd : ds[off]? = some (.v u)) (hR : Γ gR = some (.nrow u n e sz cs)) (hl : cs.length = n * sz) (hp : ∀ X ∈ ds, Pl X) (hpc : ∀ X ∈ cs, Pl X) (he : ds.set off (.sl sz n cs) = cs') :
    TE ⟨w0, noK, nn, noM⟩ (bodyPost P fn (fun r w' => ∃ b vs, r = .returned (.pointer (some ⟨b, 0, none⟩)) ∧ Below w0.heap.size w0 w' ∧ w0.heap.size ≤ b ∧ w'.heap[b]? = some (.cells vs.toArray T (0, 0)) ∧ (∀ u ∈ vs, u.oneCell' = true) ∧ ∀ K, (∀ b', K b' → b' < w0.heap.size ∨ b' = b) → repL K w' cs' vs) .ret) L Γ := fun a w ⟨ρ, h⟩ => by
  subst he
  obtain ⟨us, k1, k2⟩ := resL_run (P := P) h (rs := [.tmp t]) (As := [.ptr g 0]) (by simp [resL, resA, hr])
  obtain ⟨v, t', rfl, k3, k4⟩ := k2
  cases k4
  obtain ⟨ob, h1, h2⟩ := h.obj g _ hg (by simp)
  obtain ⟨b, vs, rfl, q1, q2, q3⟩ := h2
  have hb := h.new g b _ hg (by simp) rfl h1
  obtain ⟨b', e, hv⟩ := k3 _ h1
  cases e
  subst hv
  refine ⟨h.df, _, results_run (rs := [.tmp t]) hf _ k1, b, vs, rfl, h.fr.below (fun b => noMB b), hb, q1, q3, fun K hK => ?_⟩
  obtain ⟨obR, r1, r2⟩ := h.obj gR _ hR (by simp)
  refine repL_set ?_ (pl_list hp _ _ _ _ _ q2) hd
  have hrow := nrow_row r2
  unfold DV.rep
  rcases r2 with ⟨rfl, rfl, rfl, rfl⟩ | ⟨bR, usR, c, rfl, rfl, j2, j3, j4, j5, _⟩
  · exact .inl ⟨rfl, rfl, rfl⟩
  · have hbR := h.new gR bR _ hR (by simp) rfl r1
    have hne : bR ≠ b := fun e => by
      have := h.inj gR g b (by rw [r1, e]) h1 ⟨_, hR, by simp⟩ ⟨_, hg, by simp⟩
      subst this; rw [hR] at hg; cases hg
    refine .inr ⟨bR, 0, c, rfl, j2, j5, hl, .inr ⟨h.lt gR bR r1, fun x => ?_⟩, ?_⟩
    · rcases hK bR x with q | q
      · exact absurd hbR (by simp only at q ⊢; omega)
      · exact hne q
    · obtain ⟨us', p1, p2, p3⟩ := repAt_vals (row_cells hrow)
      exact repAt_of_cells (pl_list hpc _ _ _ _ _ p1) p2 p3
end
end Go.Proofs.YtdjcclcejmeheaaGreat.Pl

