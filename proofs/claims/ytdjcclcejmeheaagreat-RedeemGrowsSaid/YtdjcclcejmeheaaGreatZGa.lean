import Derived.Test.YtdjcclcejmeheaaGreatZFc
import Derived.Test.YtdjcclcejmeheaaGreatZQ3
/-
  A logic of walks: copies into a box; nil checks; calls that hand back a new box.
-/
namespace Go.Proofs.YtdjcclcejmeheaaGreat.Pl
set_option linter.unusedVariables false
set_option linter.unusedSimpArgs false
open Go.RowKit
section
variable {P : Program} {C : Cx} {L : Lo} {Γ : Ga} {d : Nat} {ty : TypeId} {pos : String} {af : Array Edge} {gd : Option (Nat × Bool)}
theorem OT.copyb {dT sT e sz g off m : Nat} {nd ns : Nat} {x y : Operand} {o : AO} {cs ds : List DV} {A : AV} (hn : Nat.blt d C.n = true) (hx : ev L x = some (.bs g off nd sz)) (hg : Γ g = some o) (ho : o.cells = some cs) (hy : ev L y = some A) (hA : rdv Γ A = some (.sl sz ns ds)) (hok : okr Γ A) (ht : elt P dT = some (e, sz)) (hm : Nat.min ns nd = m) (hoff : off + m * sz ≤ cs.length) :
    OT P C ⟨some d, .call { callee := .builtin .copy, args := #[x, y], argTypes := #[dT, sT] }, ty, pos, af, gd⟩ L Γ (upd L d (.f (.v (.int .i64 m)))) (upd Γ g (o.re (splice cs off (ds.take (m * sz))))) :=
  OT.turns fun ρ a w h => by
    have hd : o ≠ .dead := by rintro rfl; simp [AO.cells] at ho
    have hoff' : off ≤ cs.length := by omega
    have hlen2 : (splice cs off (ds.take (m * sz))).length = cs.length := splice_length (by rw [List.length_take]; omega)
    obtain ⟨ob, hb, hrep⟩ := h.obj g _ hg hd
    obtain ⟨b, c, e', hv, k2, k3, k4⟩ := ev_rep h hx _ hb
    cases e'
    obtain ⟨hu, j, hi, hj⟩ := elt_parts ht
    obtain ⟨us, T, q1, q0, q2, q3, back⟩ := AO.vals ho hrep
    have hbs : bsz w b = us.length := by unfold bsz; rw [q1]; simp
    have fin : ∀ (vs : List Value) (w' : World), (execOp a.eval ⟨some d, .call { callee := .builtin .copy, args := #[x, y], argTypes := #[dT, sT] }, ty, pos, af, gd⟩).run P w = .ok (.value (.int .i64 m)) (w.setRow b (splice us off vs).toArray) → repL (KK C.K0 ρ Γ) w (ds.take (m * sz)) vs → (∀ v ∈ vs, v.oneCell' = true) → off + vs.length ≤ us.length →
        ∃ u w', (execOp a.eval ⟨some d, .call { callee := .builtin .copy, args := #[x, y], argTypes := #[dT, sT] }, ty, pos, af, gd⟩).run P w = .ok (.value u) w' ∧ Reps C (upd L d (.f (.v (.int .i64 m)))) (upd Γ g (o.re (splice cs off (ds.take (m * sz))))) (a.put (some d) u) w' := fun vs _ hrun hvs h1 hfit => by
      obtain ⟨_, s2, s3, s4⟩ := heap_row_turn (P := P) q1 hfit h1
      have hk : Keeps (KK C.K0 ρ Γ) (KK C.K0 ρ Γ) w (w.setRow b (splice us off vs).toArray) := fun b' hb' hn => ⟨s3.block b' hb' (fun e => hn (.inr ⟨g, ⟨_, hg, hd⟩, by rw [hb]; cases e; rfl⟩)), Nat.lt_of_lt_of_le hb' s3.size, hn⟩
      obtain ⟨e1, e2⟩ := splice_rep' (off := off) rfl hoff' q0 q2 hvs
      refine ⟨_, _, hrun, ρ, (h.turn ⟨_, hg, hd⟩ hb s3 s4 (AO.re_dead _ _ hd) (fun o' ho' => by rw [hg] at ho'; cases ho'; exact (AO.re_key _ _).symm) (back _ _ _ _ s2 (splice_length hfit) hlen2 (by rw [← hlen2]; exact repL_mono hk _ _ e2) (by rw [← hlen2, e1, splice_take' hoff' q0]; exact splice_mem q3 h1))).put (by simpa using hn) (by unfold AV.rep DV.rep; rfl) (fun g' hg' => by simp [AV.id] at hg')⟩
    rcases src_vals h hy hA hok with ⟨hyv, rfl, rfl⟩ | ⟨b2, o2, c2, vs, hyv, v1, v2, v3, v4⟩
    · have hm0 : m = 0 := by rw [← hm]; simp
      subst hm0
      refine fin [] w ?_ (by simp [repL]) (by simp) (by have := AO.vals ho hrep; rw [← hbs]; exact Nat.le_trans (Nat.le_add_right _ _) k4)
      have e0 : splice us off ([] : List Value) = us := by unfold splice; simp
      rw [e0]
      have es : w.setRow b us.toArray = w := setRow_self w b us.toArray T (0, 0) q1
      rw [es]
      have hfc := run_firstCells_none (P := P) w sz 0 0 0
      simp [execOp, resolve, invoke, builtin, hv, hyv, Builtin.copy_, run_underlying hu, Builtin.lenOf, sizeOf, typeInfo, hi, hj, hfc, storeCells, goInt]
    · have hmle : m ≤ ns ∧ m ≤ nd := by rw [← hm]; exact ⟨Nat.min_le_left _ _, Nat.min_le_right _ _⟩
      have hl : (vs.take (m * sz)).length = m * sz := by rw [List.length_take, v2]; exact Nat.min_eq_left (Nat.mul_le_mul_right _ hmle.1)
      have hfit : off + (vs.take (m * sz)).length ≤ us.length := by
        rw [hl, ← hbs]
        exact Nat.le_trans (Nat.add_le_add_left (Nat.mul_le_mul_right _ (Nat.le_trans hmle.2 k2)) _) k4
      have h1 : ∀ v ∈ vs.take (m * sz), v.oneCell' = true := fun v hv' => v4 v (List.mem_of_mem_take hv')
      have hr2 := run_copy_rows (P := P) (w := w) (dT := dT) (sT := sT) (ty := ty) (dLen := nd) (dCap := c) (sLen := ns) (sCap := c2) (cs := vs.take (m * sz)) (a := ⟨b2, o2, none⟩) hu hi hj q1 (by rw [hl, ← hm]) (fun j v hj' => v3 j v (by
        rw [List.getElem?_take] at hj'
        split at hj'
        · exact hj'
        · cases hj')) hfit h1
      refine fin (vs.take (m * sz)) w ?_ (repL_take _ v1) h1 hfit
      simp only [execOp, resolve, invoke, builtin, Sem.run_bind, Sem.run_pure, Result.andThen_ok, List.map_toArray, List.map_cons, List.map_nil, hv, hyv, hr2, hm, goInt]
end
/-- A contract of a call that hands back a new box. -/
def PB (P : Program) (f : FuncId) (Xs : List DV) (T : TypeId) (cs : List DV) : Prop := ∀ w us, repL noK w Xs us → Calls P f us.toArray w fun r w' => ∃ b vs, r = .returned (.pointer (some ⟨b, 0, none⟩)) ∧ Below w.heap.size w w' ∧ w.heap.size ≤ b ∧ w'.heap[b]? = some (.cells vs.toArray T (0, 0)) ∧ (∀ u ∈ vs, u.oneCell' = true) ∧ ∀ K, (∀ b', K b' → b' < w.heap.size ∨ b' = b) → repL K w' cs vs
theorem PB.enter {P : Program} {f : FuncId} {fn : Func} {c : Code} {Xs : List DV} {T : TypeId} {cs : List DV} (hf : P.funcs[f]? = some fn) (hb : fn.body = some c) {nt : Nat} (hnt : fn.ntmps = nt) (hn : Nat.ble Xs.length nt = true)
    (h : ∀ w, TC P ⟨w, noK, nt, noM⟩ c (bodyPost P fn fun r w' => ∃ b vs, r = .returned (.pointer (some ⟨b, 0, none⟩)) ∧ Below w.heap.size w w' ∧ w.heap.size ≤ b ∧ w'.heap[b]? = some (.cells vs.toArray T (0, 0)) ∧ (∀ u ∈ vs, u.oneCell' = true) ∧ ∀ K, (∀ b', K b' → b' < w.heap.size ∨ b' = b) → repL K w' cs vs) (argL Xs) (fun _ => none)) : PB P f Xs T cs := fun w us hr =>
  calls_enter hf hb hnt (by simpa using hn) (fun b hb => hb.elim) hr (h w)
section
variable {P : Program} {C : Cx} {L : Lo} {Γ : Ga} {ty : TypeId} {pos : String} {af : Array Edge} {gd : Option (Nat × Bool)}
theorem OT.callb {d : Nat} {f : FuncId} {xs : List Operand} {at_ : Array TypeId} {Xs : List DV} {T : TypeId} {cs : List DV} (g : Nat) (hn : Nat.blt d C.n = true) (hg : Γ g = none) (hf : cfn P f = true) (hx : evR L Γ xs = some Xs) (hok : okR L Γ xs) (hc : PB P f Xs T cs) :
    OT P C ⟨some d, .call { callee := .value (.func f), args := xs.toArray, argTypes := at_ }, ty, pos, af, gd⟩ L Γ (upd L d (.ptr g 0)) (upd Γ g (.box T cs)) := by
  rintro a w ⟨ρ, h⟩
  unfold Oper.wp
  rw [call_run hf, Oper.upon_enter]
  refine (hc w _ (evR_rep h hx hok)).mono ?_
  rintro r w' ⟨b, vs, rfl, hb, hge, hat, h1, hY⟩
  have hgr : w.grownBy w' none := ⟨hb.os, hb.tape, hb.output, hb.size, fun k hk _ => hb.block k hk⟩
  obtain ⟨ρ', hr, hρ', hk⟩ := h.fresh (g := g) (b := b) (o' := .box T cs) (w' := w') hg hgr ⟨hge, (Array.getElem?_eq_some_iff.1 hat).1⟩ (by simp) rfl
    (fun K hK hb' => ⟨b, vs, rfl, hat, hY K (fun b' k => (hb' b' k).imp id (fun e => by cases e; rfl)), h1⟩)
  refine ⟨ρ', hr.put (by simpa using hn) (fun ob' hob => ?_) (fun g1 hg1 => ?_)⟩
  · rw [hρ'] at hob; cases hob; exact ⟨b, rfl, rfl⟩
  · cases hg1; rw [upd_same]; simp
end
section
variable {P : Program} {C : Cx} {L : Lo} {Γ : Ga}
/-- A block's cells are told in weaker words. -/
theorem reps_objsub {a : Act} {w : World} (g : Nat) {o : AO} {cs : List DV} (cs' : List DV) (hg : Γ g = some o) (ho : o.cells = some cs) (hl : cs'.length = cs.length) (hs : SubL cs cs') (h : Reps C L Γ a w) : Reps C L (upd Γ g (o.re cs')) a w := by
  obtain ⟨ρ, h⟩ := h
  have hd : o ≠ .dead := by rintro rfl; simp [AO.cells] at ho
  obtain ⟨ob, h1, h2⟩ := h.obj g o hg hd
  refine ⟨ρ, h.lent hg hd h1 (Kept.refl _ w) (AO.re_dead _ _ hd) (AO.re_key _ _) ?_⟩
  cases ob with
  | some b =>
    obtain ⟨us, T, k1, k0, k2, k3, back⟩ := AO.vals ho h2
    exact back _ _ us cs' k1 rfl hl (hs _ _ _ k2) k3
  | none =>
    have hc : cs = [] := by
      cases o with
      | dead => exact absurd rfl hd
      | box T c => obtain ⟨b, _, e, _⟩ := h2; cases e
      | mbox k T c => obtain ⟨b, _, e, _⟩ := h2; cases e
      | row T sz c => rcases h2 with ⟨_, e⟩ | ⟨b, _, _, e, _⟩; · simp [AO.cells] at ho; rw [← ho]; exact e
                      · cases e
      | mrow k T sz c => rcases h2 with ⟨_, e⟩ | ⟨b, _, _, e, _⟩; · simp [AO.cells] at ho; rw [← ho]; exact e
                         · cases e
      | nrow u n T sz c => rcases h2 with ⟨_, _, _, e⟩ | ⟨b, _, _, e, _⟩; · simp [AO.cells] at ho; rw [← ho]; exact e
                           · cases e
      | obj b x => simp [AO.cells] at ho
    subst hc
    have e0 : cs' = [] := List.eq_nil_of_length_eq_zero (by simpa using hl)
    subst e0
    cases o <;> simp [AO.cells] at ho <;> subst ho <;> exact h2
theorem TE.objsub {R : Act → World → Prop} (g : Nat) {o : AO} {cs : List DV} (cs' : List DV) (hg : Γ g = some o) (ho : o.cells = some cs) (hl : cs'.length = cs.length) (hs : SubL cs cs') (k : TE C R L (upd Γ g (o.re cs'))) : TE C R L Γ := fun a w h => k a w (reps_objsub g cs' hg ho hl hs h)
theorem TE.retb {fn : Func} {t g off gR : Nat} {T : TypeId} {ds cs cs' : List DV} {u : Value} {n e sz : Nat} {w0 : World} {nn : Nat} (hf : fn.results = #[.tmp t]) (hr : L t = some (.ptr g 0)) (hg : Γ g = some (.box T ds)) (hd : ds[off]? = some (.v u)) (hR : Γ gR = some (.nrow u n e sz cs)) (hl : cs.length = n * sz) (hp : ∀ X ∈ ds, Pl X) (hpc : ∀ X ∈ cs, Pl X) (he : ds.set off (.sl sz n cs) = cs') :
    TE ⟨w0, noK, nn, noM⟩ (bodyPost P fn (fun r w' => ∃ b vs, r = .returned (.pointer (some ⟨b, 0, none⟩)) ∧ Below w0.heap.size w0 w' ∧ w0.heap.size ≤ b ∧ w'.heap[b]? = some (.cells vs.toArray T (0, 0)) ∧ (∀ u ∈ vs, u.oneCell' = true) ∧ ∀ K, (∀ b', K b' → b' < w0.heap.size ∨ b' = b) → repL K w' cs' vs) .ret) L Γ := fun a w ⟨ρ, h⟩ => by
  subst he
  obtain ⟨us, k1, k2⟩ := resL_run (P := P) h (rs := [.tmp t]) (As := [.ptr g 0]) (by simp [resL, resA, hr])
  obtain ⟨v, t', rfl, k3, k4⟩ := k2
  cases k4
  obtain ⟨ob, h1, h2⟩ := h.obj g _ hg (by simp)
  obtain ⟨b, vs, rfl, q1, q2, q3⟩ := h2
  have hb := h.new g b _ hg (by simp) rfl h1
  obtain ⟨b', e, hv⟩ := k3 _ h1
  cases e
  subst hv
  refine ⟨h.df, _, results_run (rs := [.tmp t]) hf _ k1, b, vs, rfl, h.fr.below (fun b => noMB b), hb, q1, q3, fun K hK => ?_⟩
  obtain ⟨obR, r1, r2⟩ := h.obj gR _ hR (by simp)
  refine repL_set ?_ (pl_list hp _ _ _ _ _ q2) hd
  have hrow := nrow_row r2
  unfold DV.rep
  rcases r2 with ⟨rfl, rfl, rfl, rfl⟩ | ⟨bR, usR, c, rfl, rfl, j2, j3, j4, j5, _⟩
  · exact .inl ⟨rfl, rfl, rfl⟩
  · have hbR := h.new gR bR _ hR (by simp) rfl r1
    have hne : bR ≠ b := fun e => by
      have := h.inj gR g b (by rw [r1, e]) h1 ⟨_, hR, by simp⟩ ⟨_, hg, by simp⟩
      subst this; rw [hR] at hg; cases hg
    refine .inr ⟨bR, 0, c, rfl, j2, j5, hl, .inr ⟨h.lt gR bR r1, fun x => ?_⟩, ?_⟩
    · rcases hK bR x with q | q
      · exact absurd hbR (by simp only at q ⊢; omega)
      · exact hne q
    · obtain ⟨us', p1, p2, p3⟩ := repAt_vals (row_cells hrow)
      exact repAt_of_cells (pl_list hpc _ _ _ _ _ p1) p2 p3
end
end Go.Proofs.YtdjcclcejmeheaaGreat.Pl
/-
  Readers: what a call of Raw leaves; Clone and Word as contracts of data.
-/
namespace Go.Proofs.YtdjcclcejmeheaaGreat
set_option linter.unusedVariables false
set_option linter.unusedSimpArgs false
open Go.RowKit Pl
/-- A reader's cells: the bytes that are left, and its error. -/
def rdC (l : List UInt8) (x : Int) : List DV := [slT bdv 1 l, .v (.int .i64 x)]
theorem rd_bad {l : List UInt8} {x : Int} (n : Nat) (h : ¬ x = 0) : rawOut l x n = [] ∧ rawRest l x n = l ∧ rawErr l x n = x := by
  unfold rawOut rawRest rawErr; simp [h]
theorem rd_short {l : List UInt8} {x : Int} {n : Nat} (h : x = 0) (k : ¬ n ≤ l.length) : rawOut l x n = [] ∧ rawRest l x n = [] ∧ rawErr l x n = 21 := by
  unfold rawOut rawRest rawErr; simp [h, k]
theorem rd_ok {l : List UInt8} {x : Int} {n : Nat} (h : x = 0) (k : n ≤ l.length) : rawOut l x n = l.take n ∧ rawRest l x n = l.drop n ∧ rawErr l x n = x := by
  unfold rawOut rawRest rawErr; simp [h, k]
theorem rd_err {l : List UInt8} {x : Int} {n : Nat} (h : ¬ rawErr l x n = 0) : rawOut l x n = [] := by
  by_cases e : x = 0
  · by_cases k : n ≤ l.length
    · rw [(rd_ok e k).2.2] at h; exact absurd e h
    · exact (rd_short e k).1
  · exact (rd_bad n e).1
theorem rd_no {l : List UInt8} {x : Int} {n : Nat} (h : rawErr l x n = 0) : (rawOut l x n).length = n := by
  by_cases e : x = 0
  · by_cases k : n ≤ l.length
    · rw [(rd_ok e k).1, List.length_take]; omega
    · rw [(rd_short e k).2.2] at h; cases h
  · rw [(rd_bad n e).2.2] at h; exact absurd h e
theorem rdC_sub (x : Value) : SubL [.v (.slice none 0 0), .v x] [slT bdv 1 [], .v x] := subL_cons (nil_sub _ _) (subL_cons (fun _ _ _ h => h) subL_nil)
theorem rawRest_le (l : List UInt8) (x : Int) (n : Nat) : (rawRest l x n).length ≤ l.length := by
  unfold rawRest; split
  · split
    · rw [List.length_drop]; omega
    · simp
  · exact Nat.le_refl _
theorem po_own1 {P : Program} {f : FuncId} {X : DV} {l : List UInt8} (hc : ∀ w v, X.rep noK w v → Calls P f #[v] w (GivesOwn w l)) : PO P f [X] 5 1 l.length (l.flatMap bdv) := fun w us hr => by
  unfold repL at hr
  obtain ⟨v, t, rfl, r1, hr⟩ := hr
  unfold repL at hr; subst hr
  exact (hc w v r1).mono fun e w' ⟨v, h1, h2, h3⟩ => ⟨v, bvs l, h1, h3, h2, bvs_one l, fun K _ => repL_u8 l⟩
theorem clone8_pf (l : List UInt8) (hl : l.length ≤ 1099511627776) : PF Tryz.prog 111 [slT bdv 1 l] (slT bdv 1 l) := (po_own1 fun w v hv => clone_any v l w (rd_of_rep hv) hl).pf
theorem clone8_po (l : List UInt8) (hl : l.length ≤ 1099511627776) : PO Tryz.prog 111 [slT bdv 1 l] 5 1 l.length (l.flatMap bdv) := po_own1 fun w v hv => clone_any v l w (rd_of_rep hv) hl
theorem join_pf (ls : List (List UInt8)) (hl : totalLen ls ≤ 1099511627776) (hn : ls.length ≤ 1099511627776) : PF Tryz.prog 119 [slT ldv 1 ls] (slT bdv 1 ls.flatten) := (po_own1 fun w v hv => join_any v ls w (rdl_of_rep hv) hl hn).pf
theorem rword_pf (l : List UInt8) (hl : l.length = 8) : PF Tryz.prog 128 [slT bdv 1 l] (.v (.int .u64 (leNum l))) := fun w us hr => by
  unfold repL at hr
  obtain ⟨v, t, rfl, r1, hr⟩ := hr
  unfold repL at hr; subst hr
  exact (rword_any v l w (rd_of_rep r1) hl).mono fun e w' ⟨h1, h2⟩ => ⟨_, h1, h2 ▸ Below.refl _ _, fun K _ => by unfold DV.rep; rfl⟩
theorem or_next {q : List UInt8} {i : Nat} (h : i < q.length) (hq : q.length ≤ 8) : bits .or .u64 (leNum (q.take i)) (IntKind.u64.wrap (IntKind.u64.wrap (q[i].toNat : Int) * 2 ^ (8 * i))) = leNum (q.take (i + 1)) := by
  have h2 := leNum_bd (q.take i)
  rw [List.length_take, Nat.min_eq_left (Nat.le_of_lt h)] at h2
  rw [or_step' (leNum (q.take i)) (q[i].toNat : Int) i (by omega) h2.1 h2.2 (by omega) (by have := UInt8.toNat_lt q[i]; omega), ← leNum_take q i h]
theorem ofL_at {l : List UInt8} {j : Nat} (p : j < (H.l (ofL l)).length) : (H.l (ofL l))[j] = l.getD j 0 := List.getElem_ofFn p
/-- The first bytes of a hash's box are turned, one or all. -/
theorem ofL_step {q : List UInt8} {k : Nat} (h : k < q.length) (hq : q.length ≤ 32) : Pl.splice (hdv (ofL (q.take k))) k [.v (.int .u8 (q[k].toNat : Int))] = hdv (ofL (q.take (k + 1))) := by
  have := flat_set (enc := bdv) (sz := 1) (fun _ => rfl) (H.l (ofL (q.take k))) k q[k] (by rw [H.l_len]; omega)
  rw [Nat.mul_one] at this
  unfold hdv
  rw [show ([DV.v (.int .u8 (q[k].toNat : Int))] : List DV) = bdv q[k] from rfl, this]
  congr 1
  apply List.ext_getElem
  · simp [H.l_len]
  · intro j h1 h2
    have hj : j < 32 := by rw [H.l_len] at h2; exact h2
    rw [List.getElem_set]
    rw [ofL_at h2]
    split
    · next e => subst e; simp [List.getD_eq_getElem?_getD, List.getElem?_take, h]
    · next e =>
      rw [ofL_at]
      simp only [List.getD_eq_getElem?_getD, List.getElem?_take]
      by_cases e2 : j < k
      · rw [if_pos e2, if_pos (by omega)]
      · rw [if_neg e2, if_neg (by omega)]
theorem ofL_copy {q : List UInt8} {m : Nat} (hm : m = q.length) (hq : q.length ≤ 32) : Pl.splice (hdv zeroH) 0 ((q.flatMap bdv).take (m * 1)) = hdv (ofL q) := by
  have hz : (hdv zeroH) = (List.replicate 32 (0 : UInt8)).flatMap bdv := rfl
  have hl : (q.flatMap bdv).length = q.length := by rw [flat_length (enc := bdv) (sz := 1) (fun _ => rfl)]; omega
  rw [hm, Nat.mul_one, List.take_of_length_le (by omega)]
  unfold Pl.splice
  rw [List.take_zero, List.nil_append, hl, Nat.zero_add]
  unfold hdv
  have e : H.l (ofL q) = q ++ List.replicate (32 - q.length) 0 := by
    apply List.ext_getElem
    · simp [H.l_len]; omega
    · intro j h1 h2
      rw [ofL_at h1, List.getElem_append]
      split
      · next e => simp [List.getD_eq_getElem?_getD, e]
      · next e => simp [List.getD_eq_getElem?_getD, e]
  rw [e, List.flatMap_append]
  congr 1
  have e2 : H.l zeroH = List.replicate 32 0 := rfl
  rw [e2, show (32 : Nat) = q.length + (32 - q.length) by omega, ← List.replicate_append_replicate, List.flatMap_append, show q.length + (32 - q.length) - q.length = 32 - q.length by omega]
  have h3 : ((List.replicate q.length (0 : UInt8)).flatMap bdv).length = q.length := by rw [flat_length (enc := bdv) (sz := 1) (fun _ => rfl)]; simp
  exact List.drop_left' h3
end Go.Proofs.YtdjcclcejmeheaaGreat
/-
  Heads: plain values; signatures of both sides as contracts of data; a new row let go at once.
-/
namespace Go.Proofs.YtdjcclcejmeheaaGreat
set_option linter.unusedVariables false
set_option linter.unusedSimpArgs false
open Go.RowKit Pl
/-- An operation whose new row is let go at once. -/
theorem Pl.OT.letgo {P : Program} {C : Cx} {o : Oper} {L : Lo} {Γ Γ' : Ga} {d g n sz e : Nat} {cs : List DV} {Y : DV} (h : OT P C o L Γ (upd L d (.ow g n sz)) (upd Γ' g (.row e sz cs))) (hl : cs.length = n * sz) (he : DV.sl sz n cs = Y) : OT P C o L Γ (upd L d (.d Y)) (upd Γ' g .dead) := fun a w hr =>
  Oper.wp_mono (fun a' w' q => by
    subst he
    have q2 := reps_freeze d (g := g) (upd_same _ _ _) (upd_same _ _ _) hl q
    have e1 : upd (upd L d (.ow g n sz)) d (.d (.sl sz n cs)) = upd L d (.d (.sl sz n cs)) := by
      funext i; unfold upd; cases i.beq d <;> rfl
    have e2 : upd (upd Γ' g (.row e sz cs)) g .dead = upd Γ' g .dead := by
      funext i; unfold upd; cases i.beq g <;> rfl
    rw [e1, e2] at q2
    exact q2) (h a w hr)
def sgdv (r s : Int) : List DV := [.v (.int .u64 r), .v (.int .u64 s)]
theorem sg_rep {K : Nat → Prop} {w : World} (r s : Int) : (DV.ag (sgdv r s)).rep K w (sigV r s) := by
  unfold DV.rep
  exact ⟨[.int .u64 r, .int .u64 s], rfl, repL_v [.int .u64 r, .int .u64 s]⟩
theorem sg_val {K : Nat → Prop} {w : World} {r s : Int} {u : Value} (h : (DV.ag (sgdv r s)).rep K w u) : u = sigV r s := by
  unfold DV.rep at h
  obtain ⟨us, rfl, h⟩ := h
  have := repL_v_eq (us := [.int .u64 r, .int .u64 s]) h
  rw [this]; rfl
def u64I (x : Int) : Prop := 0 ≤ x ∧ x < 18446744073709551616
def sigP (x : Int) (m : List UInt8) : Int × Int := (sigR (x % 2305843009213693950) m, sigS (x % 2305843009213693950) m)
theorem sigP_bd (x : Int) (m : List UInt8) : u64I (sigP x m).1 ∧ u64I (sigP x m).2 := by
  have h1 := sigR_bd (x % 2305843009213693950) m
  have h2 := sigS_bd (x % 2305843009213693950) m
  exact ⟨⟨h1.1, by show sigR _ _ < _; omega⟩, ⟨h2.1, by show sigS _ _ < _; omega⟩⟩
theorem pf_sign {P : Program} {f : FuncId} {x : Int} {m : List UInt8} (hc : ∀ v w, Rd w v m → Calls P f #[.int .u64 x, v] w fun e w' => e = .returned (signV x m) ∧ Below w.heap.size w w') : PF P f [.v (.int .u64 x), slT bdv 1 m] (.ag (sgdv (sigP x m).1 (sigP x m).2)) := fun w us hr => by
  unfold repL at hr
  obtain ⟨v, t, rfl, r1, hr⟩ := hr
  unfold repL at hr
  obtain ⟨y, t', rfl, r2, hr⟩ := hr
  unfold repL at hr; subst hr
  unfold DV.rep at r1; subst r1
  exact (hc y w (rd_of_rep r2)).mono fun e w' ⟨h1, h2⟩ => ⟨_, h1, h2, fun K _ => sg_rep _ _⟩
theorem rsgn_pf (x : Int) (m : List UInt8) (hx : u64I x) (hl : m.length ≤ 549755813800) : PF Tryz.prog 95 [.v (.int .u64 x), slT bdv 1 m] (.ag (sgdv (sigP x m).1 (sigP x m).2)) := pf_sign fun v w hv => rsign_any x v m w hx.1 hx.2 hv hl
theorem pf_chk {P : Program} {f : FuncId} {y r s : Int} {m : List UInt8} {b : Bool} (hc : ∀ v w, Rd w v m → Calls P f #[.int .u64 y, v, sigV r s] w fun e w' => e = .returned (.bool b) ∧ Below w.heap.size w w') : PF P f [.v (.int .u64 y), slT bdv 1 m, .ag (sgdv r s)] (.v (.bool b)) := fun w us hr => by
  unfold repL at hr
  obtain ⟨v, t, rfl, r1, hr⟩ := hr
  unfold repL at hr
  obtain ⟨y, t', rfl, r2, hr⟩ := hr
  unfold repL at hr
  obtain ⟨z, t'', rfl, r3, hr⟩ := hr
  unfold repL at hr; subst hr
  unfold DV.rep at r1; subst r1
  have := sg_val r3; subst this
  exact (hc y w (rd_of_rep r2)).mono fun e w' ⟨h1, h2⟩ => ⟨_, h1, h2, fun K _ => by unfold DV.rep; rfl⟩
theorem sgc_pf (y r s : Int) (m : List UInt8) (hy : u64I y) (hr : u64I r) (hs : u64I s) (hl : m.length ≤ 549755813800) : PF Tryz.prog 74 [.v (.int .u64 y), slT bdv 1 m, .ag (sgdv r s)] (.v (.bool (checkF y m r s))) := pf_chk fun v w hv => check_any y r s v m w hy.1 hy.2 hr.1 hr.2 hs.1 hs.2 hv hl
theorem rsgc_pf (y r s : Int) (m : List UInt8) (hy : u64I y) (hr : u64I r) (hs : u64I s) (hl : m.length ≤ 549755813800) : PF Tryz.prog 87 [.v (.int .u64 y), slT bdv 1 m, .ag (sgdv r s)] (.v (.bool (checkF y m r s))) := pf_chk fun v w hv => rcheck_any y r s v m w hy.1 hy.2 hr.1 hr.2 hs.1 hs.2 hv hl
theorem po_sput {P : Program} {f : FuncId} {r s : Int} {l : List UInt8} (hc : ∀ w, Calls P f #[sigV r s] w (GivesOwn w l)) : PO P f [.ag (sgdv r s)] 5 1 l.length (l.flatMap bdv) := fun w us hr => by
  unfold repL at hr
  obtain ⟨z, t, rfl, r3, hr⟩ := hr
  unfold repL at hr; subst hr
  have := sg_val r3; subst this
  exact (hc w).mono fun e w' ⟨v, h1, h2, h3⟩ => ⟨v, bvs l, h1, h3, h2, bvs_one l, fun K _ => repL_u8 l⟩
theorem rsgp_pf (r s : Int) (hr : u64I r) (hs : u64I s) : PF Tryz.prog 49 [.ag (sgdv r s)] (slT bdv 1 (putF r s)) := (po_sput fun w => rput_any r s w hr.1 hr.2 hs.1 hs.2).pf
theorem rpub_pf (x : Int) (hx : u64I x) : PF Tryz.prog 12 [.v (.int .u64 x)] (.v (.int .u64 (pubF x))) := pf_plain rfl rfl fun w => (rpublic_any x w hx.1 hx.2).mono fun e w' ⟨h1, h2⟩ => ⟨h1, h2.below _⟩
structure Hd where
  ep : Int
  tk : Int
  ct : Int
  root : H
  log : H
  r : Int
  s : Int
def Hd.dv (h : Hd) : List DV := .v (.int .i64 h.ep) :: .v (.int .i64 h.tk) :: .v (.int .i64 h.ct) :: (hdv h.root ++ (hdv h.log ++ sgdv h.r h.s))
def Hd.ok (h : Hd) : Prop := u64I h.r ∧ u64I h.s
def zeroHd : Hd := ⟨0, 0, 0, zeroH, zeroH, 0, 0⟩
def rightH (h : Hd) : Bool := decide (1 ≤ h.ep ∧ h.ep ≤ 1073741824 ∧ 0 ≤ h.tk ∧ h.tk ≤ 1152921504606846976 ∧ 1 ≤ h.ct ∧ h.ct ≤ 8)
def msgL (h : Hd) : List (List UInt8) := [[72], numB (u64w h.ep), numB (u64w h.tk), numB (u64w h.ct), H.l h.root, H.l h.log]
def msgB (h : Hd) : List UInt8 := (msgL h).flatten
theorem hg_one (h : H) : (hdv h).all DV.one = true := flat_one (fun _ => rfl) _
theorem msgL_len (h : Hd) : totalLen (msgL h) ≤ 1099511627776 := by
  unfold msgL
  simp only [totalLen, List.map_cons, List.map_nil, List.sum_cons, List.sum_nil, numB_len, H.l_len, List.length_cons, List.length_nil]; omega
theorem msgB_app (h : Hd) : [72] ++ numB (u64w h.ep) ++ numB (u64w h.tk) ++ numB (u64w h.ct) ++ H.l h.root ++ H.l h.log = msgB h := by unfold msgB msgL; simp
theorem pl_hd (h : Hd) : Pl (.ag h.dv) := by
  refine pl_ag ?_
  unfold Hd.dv
  exact pl_cons (pl_v _) (pl_cons (pl_v _) (pl_cons (pl_v _) (pl_app (pl_h _) (pl_app (pl_h _) (pl_cons (pl_v _) (pl_cons (pl_v _) pl_nil))))))
theorem msgB_len (h : Hd) : (msgB h).length = 89 := by
  unfold msgB msgL
  simp only [List.flatten_cons, List.flatten_nil, List.length_append, List.length_cons, List.length_nil, numB_len, H.l_len]
def signH (x : Int) (h : Hd) : Hd := { h with r := (sigP x (msgB h)).1, s := (sigP x (msgB h)).2 }
def checkH (y : Int) (h : Hd) : Bool := rightH h && checkF y (msgB h) h.r h.s
def putH (h : Hd) : List UInt8 := msgB h ++ putF h.r h.s
theorem putH_len (h : Hd) : (putH h).length = 105 := by unfold putH; rw [List.length_append, msgB_len, putF_len]
theorem checkH_no {y : Int} {h : Hd} (q : rightH h = false) : checkH y h = false := by unfold checkH; rw [q]; rfl
theorem checkH_yes {y : Int} {h : Hd} (q : rightH h = true) : checkH y h = checkF y (msgB h) h.r h.s := by unfold checkH; rw [q]; rfl
theorem signH_ok (x : Int) (h : Hd) : (signH x h).ok := sigP_bd x (msgB h)
end Go.Proofs.YtdjcclcejmeheaaGreat

