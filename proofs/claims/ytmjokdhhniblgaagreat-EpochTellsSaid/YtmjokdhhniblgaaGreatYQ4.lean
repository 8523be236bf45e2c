import Derived.Test.YtmjokdhhniblgaaGreatYQ2
import Derived.Lib.Overlaps
/-
  A logic of walks: a row that is given away and comes back, as it was or grown: capacities, copies, overlaps, the contract. A logic of walks: appends to a row that was given, in its room or into a new one; overlaps; the contract of giving a row away. A logic of walks: a row that is given away and comes back, as it was or grown: the contract; overlaps of apart slices. A logic of walks: rows of one's own whose slice lies in a box: the slice's value is named.
-/
section
namespace Go.Proofs.YtmjokdhhniblgaaGreat.Pl
set_option linter.unusedVariables false
set_option linter.unusedSimpArgs false
open Go.RowKit
/-- The room of the block that is lent. -/
def CapM (C : Cx) (sz c : Nat) : Prop := ∀ b, C.M 0 = some (some b) → bsz C.w0 b = c * sz ∧ b < C.w0.heap.size
theorem lent_cap {C : Cx} {ρ : Rho} {L : Lo} {Γ : Ga} {a : Act} {w : World} (h : RepsAt C ρ L Γ a w) {sz c b : Nat} (hC : CapM C sz c) {o : AO} (hg : Γ 0 = some o) (hk : o.key = some 0) (hρ : ρ 0 = some (some b)) : bsz w b = c * sz := by
  obtain ⟨h1, h2⟩ := hC b (h.len 0 o 0 _ hg hk hρ)
  rw [h.fr.msz b h2]; exact h1
def rowB : AO → Bool
  | .row .. => true
  | .mrow .. => true
  | _ => false
theorem rowB_dead {o : AO} (h : rowB o = true) : o ≠ .dead := by rintro rfl; cases h
/-- A row's block: what is known of its cells, and how to tell it anew behind a write. -/
theorem row_vals {K : Nat → Prop} {w : World} {o : AO} {cs : List DV} {b : Nat} (hr : rowB o = true) (ho : o.cells = some cs) (h : o.rep K w (some b)) : ∃ (us : List Value) (T : TypeId), w.heap[b]? = some (.cells us.toArray T (0, 0)) ∧ cs.length ≤ us.length ∧ repL K w cs (us.take cs.length) ∧ (∀ u ∈ us.take cs.length, u.oneCell' = true) ∧
    ∀ (K' : Nat → Prop) (w' : World) (us' : List Value) (cs' : List DV), w'.heap[b]? = some (.cells us'.toArray T (0, 0)) → us'.length = us.length → cs'.length ≤ us'.length → repL K' w' cs' (us'.take cs'.length) → (∀ u ∈ us'.take cs'.length, u.oneCell' = true) → (o.re cs').rep K' w' (some b) := by
  have key : ∀ T sz cs', (AO.row T sz cs').rep K w (some b) → cs' = cs → ∃ (us : List Value) (T' : TypeId), w.heap[b]? = some (.cells us.toArray T' (0, 0)) ∧ cs.length ≤ us.length ∧ repL K w cs (us.take cs.length) ∧ (∀ u ∈ us.take cs.length, u.oneCell' = true) ∧
      ∀ (K' : Nat → Prop) (w' : World) (us' : List Value) (ds : List DV), w'.heap[b]? = some (.cells us'.toArray T' (0, 0)) → us'.length = us.length → ds.length ≤ us'.length → repL K' w' ds (us'.take ds.length) → (∀ u ∈ us'.take ds.length, u.oneCell' = true) → (AO.row T sz ds).rep K' w' (some b) := fun T sz cs' h e => by
    subst e
    rcases h with ⟨h, _⟩ | ⟨b', us, cap, e, h1, h2, h3, h4, h5, h6⟩
    · cases h
    · cases e
      exact ⟨us, T, h1, h4, h5, h6, fun K' w' us' ds q1 q2 q3 q4 q5 => .inr ⟨b, us', cap, rfl, q1, by omega, h3, q3, q4, q5⟩⟩
  cases o with
  | dead => cases hr
  | box T cs' => cases hr
  | mbox _ T cs' => cases hr
  | nrow u n T sz cs' => cases hr
  | obj _ _ => cases hr
  | row T sz cs' => exact key T sz cs' h (by simpa [AO.cells] using ho)
  | mrow _ T sz cs' => exact key T sz cs' h (by simpa [AO.cells] using ho)
theorem re_rowB {o : AO} (cs : List DV) (h : rowB o = true) : o.re cs ≠ .dead := by cases o <;> simp [AO.re, rowB] at h ⊢
section
variable {P : Program} {C : Cx} {L : Lo} {Γ : Ga} {d : Nat} {ty : TypeId} {pos : String} {af : Array Edge} {gd : Option (Nat × Bool)}
theorem OT.capm {t e n sz c : Nat} {x : Operand} {o : AO} {cs : List DV} (hC : CapM C sz c) (h0 : 0 < n) (hsz : 0 < sz) (hn : Nat.blt d C.n = true) (hx : ev L x = some (.ow 0 n sz)) (hg : Γ 0 = some o) (ho : o.cells = some cs) (hk : o.key = some 0) (ht : elt P t = some (e, sz)) :
    OT P C ⟨some d, .call { callee := .builtin .cap, args := #[x], argTypes := #[t] }, ty, pos, af, gd⟩ L Γ (upd L d (.f (.v (.int .i64 c)))) Γ :=
  OT.value hn (fun g hg => by simp [AV.id] at hg) fun ρ a w h => by
    obtain ⟨ob, h1⟩ := own_block h hg ho
    obtain ⟨hu, j, hi, hj⟩ := elt_parts ht
    rcases ev_rep h hx ob h1 with ⟨_, _, k2⟩ | ⟨b, c', rfl, hv, k2, k3, k4⟩
    · omega
    · have hc := lent_cap h hC hg hk h1
      obtain rfl : c' = c := Nat.eq_of_mul_eq_mul_right hsz (k4.trans hc)
      exact ⟨.int .i64 c', by simp [execOp, resolve, invoke, builtin, hv, Builtin.cap_, run_underlying hu, goInt], rfl⟩
/-- s[:N] beyond the length. -/
theorem OT.sliceup {t e n sz c N : Nat} {x y : Operand} {o : AO} {cs : List DV} (hC : CapM C sz c) (h0 : 0 < n) (hsz : 0 < sz) (hNc : N ≤ c) (hN0 : 0 < N) (hn : Nat.blt d C.n = true) (hx : ev L x = some (.ow 0 n sz)) (hg : Γ 0 = some o) (ho : o.cells = some cs) (hk : o.key = some 0) (ht : elt P t = some (e, sz)) (hh : evv L y = some (.int .i64 (N : Int))) :
    OT P C ⟨some d, .slice t x none (some y) none, ty, pos, af, gd⟩ L Γ (upd L d (.ow 0 N sz)) Γ :=
  OT.value hn (fun g' hg' ρ a w h => ev_ment h hx hg') fun ρ a w h => by
    obtain ⟨ob, h3'⟩ := own_block h hg ho
    obtain ⟨hu, j, hi', hj⟩ := elt_parts ht
    rcases ev_rep h hx ob h3' with ⟨_, _, k2⟩ | ⟨b, c', rfl, hv, k2, k3, k4⟩
    · omega
    · have hc := lent_cap h hC hg hk h3'
      obtain rfl : c' = c := Nat.eq_of_mul_eq_mul_right hsz (k4.trans hc)
      have hbn : (Instr.sliceBounds true n c' none (some (a.eval y)) none).run P w = .ok (0, N, c') w := by
        simp [Instr.sliceBounds, bound_run (P := P) h hh c' _ (Int.natCast_nonneg N) (by omega)]
      refine ⟨.slice (some ⟨b, 0, none⟩) N c', ?_, fun ob' h5 => ?_⟩
      · have hc0 : c' ≠ 0 := by omega
        simp [execOp, hv, Instr.sliceAt, Instr.slice, run_underlying hu, hbn, sizeOf, typeInfo, hi', hj, hc0, addr_add]
      · rw [h3'] at h5; cases h5
        exact .inr ⟨b, c', rfl, rfl, hNc, k3, k4⟩
theorem run_copy_rows {w : World} {dT sT ty e sz g o dLen dCap : Nat} {a : Addr} {sLen sCap : Nat} {us : List Value} {T : TypeId} {cs : List Value} (hu : P.underlying dT = some (.slice e)) {i : TypeInfo} (hi : P.info? e = some i) (hsz : i.size = sz)
    (hg : w.heap[g]? = some (.cells us.toArray T (0, 0))) (hl : cs.length = Nat.min sLen dLen * sz) (hsrc : ∀ j v, cs[j]? = some v → w.cell? (a.add j) = some v) (hfit : o + cs.length ≤ us.length) (h1 : ∀ v ∈ cs, v.oneCell' = true) :
    (Builtin.copy_ #[dT, sT] ty #[.slice (some ⟨g, o, none⟩) dLen dCap, .slice (some a) sLen sCap]).run P w = .ok (goInt (Nat.min sLen dLen)) (w.setRow g (splice us o cs).toArray) := by
  have hfc := run_firstCells_some (P := P) w sz (Nat.min sLen dLen) a sLen sCap cs hl hsrc
  obtain ⟨s1, _⟩ := heap_row_turn (P := P) hg hfit h1
  simp [Builtin.copy_, run_underlying hu, Builtin.lenOf, sizeOf, typeInfo, hi, hsz, hfc, s1]
theorem splice_take' {α : Type} {us vs : List α} {off n : Nat} (h : off ≤ n) (hn : n ≤ us.length) : (splice us off vs).take (splice (us.take n) off vs).length = splice (us.take n) off vs := by
  have e1 : (us.take n).take off = us.take off := by rw [List.take_take, Nat.min_eq_left h]
  unfold splice
  rw [e1]
  have hle : (us.take off).length = off := by simp; omega
  rw [List.append_assoc, List.append_assoc, List.take_append, List.take_append]
  simp only [List.length_append, List.length_drop, List.length_take]
  rw [List.take_of_length_le (l := us.take off) (by simp only [List.length_take]; omega), List.take_of_length_le (l := vs) (by omega)]
  congr 2
  have : (us.take n).drop (off + vs.length) = (us.drop (off + vs.length)).take (n - (off + vs.length)) := by rw [List.drop_take]
  rw [this]
  congr 1
  omega
theorem splice_rep' {K : Nat → Prop} {w : World} {cs ds : List DV} {us vs : List Value} {off n : Nat} (hn : cs.length = n) (h : off ≤ n) (hu : n ≤ us.length) (hr : repL K w cs (us.take n)) (hd : repL K w ds vs) : (splice cs off ds).length = (splice (us.take n) off vs).length ∧ repL K w (splice cs off ds) ((splice us off vs).take (splice cs off ds).length) := by
  have hl := repL_length hd
  have e : (splice cs off ds).length = (splice (us.take n) off vs).length := by
    unfold splice; simp only [List.length_append, List.length_take, List.length_drop, hn, hl]; omega
  refine ⟨e, ?_⟩
  rw [e, splice_take' h hu]
  exact splice_rep off hr hd
/-- The first cells of what is copied, as data: out of another block. -/
theorem OT.copyd {dT sT e sz g off m : Nat} {nd ns : Nat} {x y : Operand} {o : AO} {cs ds : List DV} {A : AV} (hn : Nat.blt d C.n = true) (hx : ev L x = some (.bs g off nd sz)) (hg : Γ g = some o) (ho : o.cells = some cs) (hr : rowB o = true) (hy : ev L y = some A) (hA : rdv Γ A = some (.sl sz ns ds)) (hok : okr Γ A) (ht : elt P dT = some (e, sz)) (hm : Nat.min ns nd = m) (hoff : off ≤ cs.length) :
    OT P C ⟨some d, .call { callee := .builtin .copy, args := #[x, y], argTypes := #[dT, sT] }, ty, pos, af, gd⟩ L Γ (upd L d (.f (.v (.int .i64 m)))) (upd Γ g (o.re (splice cs off (ds.take (m * sz))))) :=
  OT.turns fun ρ a w h => by
    have hd := rowB_dead hr
    obtain ⟨ob, hb, hrep⟩ := h.obj g _ hg hd
    obtain ⟨b, c, e', hv, k2, k3, k4⟩ := ev_rep h hx _ hb
    cases e'
    obtain ⟨hu, j, hi, hj⟩ := elt_parts ht
    obtain ⟨us, T, q1, q0, q2, q3, back⟩ := row_vals hr ho hrep
    have hbs : bsz w b = us.length := by unfold bsz; rw [q1]; simp
    have fin : ∀ (vs : List Value) (w' : World), (execOp a.eval ⟨some d, .call { callee := .builtin .copy, args := #[x, y], argTypes := #[dT, sT] }, ty, pos, af, gd⟩).run P w = .ok (.value (.int .i64 m)) (w.setRow b (splice us off vs).toArray) → repL (KK C.K0 ρ Γ) w (ds.take (m * sz)) vs → (∀ v ∈ vs, v.oneCell' = true) → off + vs.length ≤ us.length →
        ∃ u w', (execOp a.eval ⟨some d, .call { callee := .builtin .copy, args := #[x, y], argTypes := #[dT, sT] }, ty, pos, af, gd⟩).run P w = .ok (.value u) w' ∧ Reps C (upd L d (.f (.v (.int .i64 m)))) (upd Γ g (o.re (splice cs off (ds.take (m * sz))))) (a.put (some d) u) w' := fun vs _ hrun hvs h1 hfit => by
      obtain ⟨_, s2, s3, s4⟩ := heap_row_turn (P := P) q1 hfit h1
      have hk : Keeps (KK C.K0 ρ Γ) (KK C.K0 ρ Γ) w (w.setRow b (splice us off vs).toArray) := fun b' hb' hn => ⟨s3.block b' hb' (fun e => hn (.inr ⟨g, ⟨_, hg, hd⟩, by rw [hb]; cases e; rfl⟩)), Nat.lt_of_lt_of_le hb' s3.size, hn⟩
      obtain ⟨e1, e2⟩ := splice_rep' (off := off) rfl hoff q0 q2 hvs
      refine ⟨_, _, hrun, ρ, (h.turn ⟨_, hg, hd⟩ hb s3 s4 (re_rowB _ hr) (fun o' ho' => by rw [hg] at ho'; cases ho'; exact (AO.re_key _ _).symm) (back _ _ _ _ s2 (splice_length hfit) ?_ (repL_mono hk _ _ e2) ?_)).put (by simpa using hn) (by unfold AV.rep DV.rep; rfl) (fun g' hg' => by simp [AV.id] at hg')⟩
      · rw [e1, splice_length hfit]
        unfold splice
        simp only [List.length_append, List.length_take, List.length_drop]
        omega
      · rw [e1, splice_take' hoff q0]
        exact splice_mem q3 h1
    rcases src_vals h hy hA hok with ⟨hyv, rfl, rfl⟩ | ⟨b2, o2, c2, vs, hyv, v1, v2, v3, v4⟩
    · have hm0 : m = 0 := by rw [← hm]; simp
      subst hm0
      refine fin [] w ?_ (by simp [repL]) (by simp) (by have := AO.vals ho hrep; rw [← hbs]; exact Nat.le_trans (Nat.le_add_right _ _) k4)
      have e0 : splice us off ([] : List Value) = us := by unfold splice; simp
      rw [e0]
      have es : w.setRow b us.toArray = w := setRow_self w b us.toArray T (0, 0) q1
      rw [es]
      have hfc := run_firstCells_none (P := P) w sz 0 0 0
      simp [execOp, resolve, invoke, builtin, hv, hyv, Builtin.copy_, run_underlying hu, Builtin.lenOf, sizeOf, typeInfo, hi, hj, hfc, storeCells, goInt]
    · have hmle : m ≤ ns ∧ m ≤ nd := by rw [← hm]; exact ⟨Nat.min_le_left _ _, Nat.min_le_right _ _⟩
      have hl : (vs.take (m * sz)).length = m * sz := by rw [List.length_take, v2]; exact Nat.min_eq_left (Nat.mul_le_mul_right _ hmle.1)
      have hfit : off + (vs.take (m * sz)).length ≤ us.length := by
        rw [hl, ← hbs]
        exact Nat.le_trans (Nat.add_le_add_left (Nat.mul_le_mul_right _ (Nat.le_trans hmle.2 k2)) _) k4
      have h1 : ∀ v ∈ vs.take (m * sz), v.oneCell' = true := fun v hv' => v4 v (List.mem_of_mem_take hv')
      have hr2 := run_copy_rows (P := P) (w := w) (dT := dT) (sT := sT) (ty := ty) (dLen := nd) (dCap := c) (sLen := ns) (sCap := c2) (cs := vs.take (m * sz)) (a := ⟨b2, o2, none⟩) hu hi hj q1 (by rw [hl, ← hm]) (fun j v hj' => v3 j v (by
        rw [List.getElem?_take] at hj'
        split at hj'
        · exact hj'
        · cases hj')) hfit h1
      refine fin (vs.take (m * sz)) w ?_ (repL_take _ v1) h1 hfit
      simp only [execOp, resolve, invoke, builtin, Sem.run_bind, Sem.run_pure, Result.andThen_ok, List.map_toArray, List.map_cons, List.map_nil, hv, hyv, hr2, hm, goInt]
/-- A part of a row moves within the row. -/
theorem OT.copyo {dT sT e sz g od os m : Nat} {nd ns : Nat} {x y : Operand} {o : AO} {cs : List DV} (hn : Nat.blt d C.n = true) (hx : ev L x = some (.bs g od nd sz)) (hy : ev L y = some (.bs g os ns sz)) (hg : Γ g = some o) (ho : o.cells = some cs) (hr : rowB o = true) (ht : elt P dT = some (e, sz)) (hm : Nat.min ns nd = m) (hod : od ≤ cs.length) (hos : os + m * sz ≤ cs.length) :
    OT P C ⟨some d, .call { callee := .builtin .copy, args := #[x, y], argTypes := #[dT, sT] }, ty, pos, af, gd⟩ L Γ (upd L d (.f (.v (.int .i64 m)))) (upd Γ g (o.re (splice cs od ((cs.drop os).take (m * sz))))) :=
  OT.turns fun ρ a w h => by
    have hd := rowB_dead hr
    obtain ⟨ob, hb, hrep⟩ := h.obj g _ hg hd
    obtain ⟨b, c, e', hv, k2, k3, k4⟩ := ev_rep h hx _ hb
    cases e'
    obtain ⟨b', c2, e', hyv, j2, j3, j4⟩ := ev_rep h hy _ hb
    cases e'
    obtain ⟨hu, j, hi, hj⟩ := elt_parts ht
    obtain ⟨us, T, q1, q0, q2, q3, back⟩ := row_vals hr ho hrep
    have hbs : bsz w b = us.length := by unfold bsz; rw [q1]; simp
    have hmle : m ≤ ns ∧ m ≤ nd := by rw [← hm]; exact ⟨Nat.min_le_left _ _, Nat.min_le_right _ _⟩
    let vs := ((us.take cs.length).drop os).take (m * sz)
    have hl : vs.length = m * sz := by simp only [vs, List.length_take, List.length_drop]; omega
    have hfit : od + vs.length ≤ us.length := by
      rw [hl, ← hbs]
      exact Nat.le_trans (Nat.add_le_add_left (Nat.mul_le_mul_right _ (Nat.le_trans hmle.2 k2)) _) k4
    have h1 : ∀ v ∈ vs, v.oneCell' = true := fun v hv' => q3 v (List.mem_of_mem_drop (List.mem_of_mem_take hv'))
    have hvs : repL (KK C.K0 ρ Γ) w ((cs.drop os).take (m * sz)) vs := repL_take _ (repL_drop _ q2)
    have hr2 := run_copy_rows (P := P) (w := w) (dT := dT) (sT := sT) (ty := ty) (dLen := nd) (dCap := c) (sLen := ns) (sCap := c2) (cs := vs) (a := ⟨b, os, none⟩) hu hi hj q1 (by rw [hl, ← hm]) (fun j v hj' => by
      have hjl : j < vs.length := (List.getElem?_eq_some_iff.1 hj').1
      rw [addr_add]
      have : us[os + j]? = some v := by
        simp only [vs] at hj'
        rw [List.getElem?_take_of_lt (by omega), List.getElem?_drop, List.getElem?_take_of_lt (by omega)] at hj'
        exact hj'
      simp [World.cell?, q1, this]) hfit h1
    obtain ⟨_, s2, s3, s4⟩ := heap_row_turn (P := P) q1 hfit h1
    have hk : Keeps (KK C.K0 ρ Γ) (KK C.K0 ρ Γ) w (w.setRow b (splice us od vs).toArray) := fun b' hb' hn => ⟨s3.block b' hb' (fun e => hn (.inr ⟨g, ⟨_, hg, hd⟩, by rw [hb]; cases e; rfl⟩)), Nat.lt_of_lt_of_le hb' s3.size, hn⟩
    obtain ⟨e1, e2⟩ := splice_rep' (off := od) rfl hod q0 q2 hvs
    refine ⟨.int .i64 m, w.setRow b (splice us od vs).toArray, by simp only [execOp, resolve, invoke, builtin, Sem.run_bind, Sem.run_pure, Result.andThen_ok, List.map_toArray, List.map_cons, List.map_nil, hv, hyv, hr2, hm, goInt], ρ, (h.turn ⟨_, hg, hd⟩ hb s3 s4 (re_rowB _ hr) (fun o' ho' => by rw [hg] at ho'; cases ho'; exact (AO.re_key _ _).symm) (back _ _ _ _ s2 (splice_length hfit) ?_ (repL_mono hk _ _ e2) ?_)).put (by simpa using hn) (by unfold AV.rep DV.rep; rfl) (fun g' hg' => by simp [AV.id] at hg')⟩
    · rw [e1, splice_length hfit]
      unfold splice
      simp only [List.length_append, List.length_take, List.length_drop]
      omega
    · rw [e1, splice_take' hod q0]
      exact splice_mem q3 h1
end
end Go.Proofs.YtmjokdhhniblgaaGreat.Pl
end
section
namespace Go.Proofs.YtmjokdhhniblgaaGreat.Pl
set_option linter.unusedVariables false
set_option linter.unusedSimpArgs false
open Go.RowKit
/-- The room, nothing for nothing. -/
def CapN (C : Cx) (sz c : Nat) : Prop := CapM C sz c ∧ (C.M 0 = some none → c = 0)
section
variable {P : Program} {C : Cx} {L : Lo} {Γ : Ga} {d : Nat} {ty : TypeId} {pos : String} {af : Array Edge} {gd : Option (Nat × Bool)}
theorem mrow_block {C : Cx} {ρ : Rho} {L : Lo} {Γ : Ga} {a : Act} {w : World} (h : RepsAt C ρ L Γ a w) {e sz : Nat} {cs : List DV} (hg : Γ 0 = some (.mrow 0 e sz cs)) : ∃ ob, ρ 0 = some ob ∧ C.M 0 = some ob ∧ (AO.mrow 0 e sz cs).rep (KK C.K0 ρ Γ) w ob := by
  obtain ⟨ob, h1, h2⟩ := h.obj 0 _ hg (by simp)
  exact ⟨ob, h1, h.len 0 _ 0 ob hg rfl h1, h2⟩
/-- append within the room of a row that was given. -/
theorem OT.appin {t e sz by_ n m c : Nat} {s x : Operand} {cs ds : List DV} {A : AV} (hC : CapN C sz c) (hroom : n + m ≤ c) (hm : 0 < m) (hn : Nat.blt d C.n = true) (hs : ev L s = some (.ow 0 n sz)) (hg : Γ 0 = some (.mrow 0 e sz cs)) (hl : cs.length = n * sz) (ht : apt P t = some (e, sz, by_))
    (hx : ev L x = some A) (hA : rdv Γ A = some (.sl sz m ds)) (hok : okr Γ A) :
    OT P C ⟨some d, .call { callee := .builtin .append, args := #[s, x], argTypes := #[t, t] }, ty, pos, af, gd⟩ L Γ (upd L d (.ow 0 (n + m) sz)) (upd Γ 0 (.mrow 0 e sz (cs ++ ds))) :=
  OT.turns fun ρ a w h => by
    obtain ⟨hu, i, z, hi, hz, hsz, hby, hzs, h0⟩ := apt_parts ht
    obtain ⟨ob, hρ, hM, hrep⟩ := mrow_block h hg
    rcases hrep with ⟨rfl, _⟩ | ⟨b, us, cap, rfl, q1, q2, q3, q4, q5, q6⟩
    · have := hC.2 hM; omega
    rcases ev_rep h hs _ hρ with ⟨k, _⟩ | ⟨b', c', k, hv, k2, k3, k4⟩
    · cases k
    cases k
    have hc := lent_cap h hC.1 hg rfl hρ
    obtain rfl : c' = c := Nat.eq_of_mul_eq_mul_right h0 (k4.trans hc)
    have hbs : bsz w b = us.length := by unfold bsz; rw [q1]; simp
    rcases src_vals h hx hA hok with ⟨_, rfl, _⟩ | ⟨b2, o2, c2, vs, hxv, v1, v2, v3, v4⟩
    · omega
    have hfit : n * sz + vs.length ≤ us.length := by rw [v2, ← hbs, hc, ← Nat.add_mul]; exact Nat.mul_le_mul_right _ hroom
    subst hsz
    have hr := run_append_room (P := P) w t ty e i hu hi b n c' us.toArray q1 ⟨b2, o2, none⟩ m c2 vs v2 v3 v4 hroom (by simpa using hfit)
    have e2 : (us.toArray.toList.take (n * i.size) ++ vs ++ us.toArray.toList.drop (n * i.size + vs.length)) = splice us (n * i.size) vs := rfl
    rw [e2] at hr
    obtain ⟨_, s2, s3, s4⟩ := heap_row_turn (P := P) q1 hfit v4
    have hk : Keeps (KK C.K0 ρ Γ) (KK C.K0 ρ Γ) w (w.setRow b (splice us (n * i.size) vs).toArray) := fun b' hb' hn => ⟨s3.block b' hb' (fun e => hn (.inr ⟨0, ⟨_, hg, by simp⟩, by rw [hρ]; cases e; rfl⟩)), Nat.lt_of_lt_of_le hb' s3.size, hn⟩
    have hlen : (cs ++ ds).length = n * i.size + vs.length := by rw [List.length_append, hl, repL_length v1]
    have htk : (splice us (n * i.size) vs).take (cs ++ ds).length = us.take cs.length ++ vs := by
      rw [hlen, hl]
      unfold splice
      have e3 : (us.take (n * i.size) ++ vs).length = n * i.size + vs.length := by simp; omega
      rw [← e3, List.take_left]
    have hback : (AO.mrow 0 e i.size (cs ++ ds)).rep (KK C.K0 ρ Γ) (w.setRow b (splice us (n * i.size) vs).toArray) (some b) := by
      refine Or.inr ⟨b, splice us (n * i.size) vs, cap, rfl, s2, by rw [splice_length hfit]; exact q2, q3, by rw [hlen, splice_length hfit]; exact hfit, ?_, ?_⟩
      · rw [htk]; exact repL_mono hk _ _ (repL_append q5 v1)
      · rw [htk]; intro u hu'
        exact (List.mem_append.1 hu').elim (q6 u) (v4 u)
    have hrun : (execOp a.eval ⟨some d, .call { callee := .builtin .append, args := #[s, x], argTypes := #[t, t] }, ty, pos, af, gd⟩).run P w = .ok (.value (.slice (some ⟨b, 0, none⟩) (n + m) c')) (w.setRow b (splice us (n * i.size) vs).toArray) := by
      simp only [execOp, resolve, invoke, builtin, Sem.run_bind, Sem.run_pure, Result.andThen_ok, List.map_toArray, List.map_cons, List.map_nil, hv, hxv, hr]
    refine ⟨_, _, hrun, ρ, (h.turn ⟨_, hg, by simp⟩ hρ s3 s4 (by simp) (fun o' ho' => by rw [hg] at ho'; cases ho'; rfl) hback).put (by simpa using hn) (fun ob' hob => ?_) (fun g1 hg1 => ?_)⟩
    · rw [hρ] at hob; cases hob
      exact .inr ⟨b, c', rfl, rfl, hroom, k3, by rw [s4]; exact k4⟩
    · cases hg1; rw [upd_same]; simp
/-- append beyond the room of a row that was given: a new row. -/
theorem OT.appout {t e sz by_ n m c : Nat} {s x : Operand} {cs ds : List DV} {A : AV} (g' : Nat) (hC : CapN C sz c) (hroom : c < n + m) (hn : Nat.blt d C.n = true) (hs : ev L s = some (.ow 0 n sz)) (hg : Γ 0 = some (.mrow 0 e sz cs)) (hl : cs.length = n * sz) (hg' : Γ g' = none) (ht : apt P t = some (e, sz, by_))
    (hx : ev L x = some A) (hA : rdv Γ A = some (.sl sz m ds)) (hok : okr Γ A) (hm : 0 < m) (hbig : (n + m) * by_ ≤ 140737488355328) (hmax : n + m ≤ 1099511627776) :
    OT P C ⟨some d, .call { callee := .builtin .append, args := #[s, x], argTypes := #[t, t] }, ty, pos, af, gd⟩ L Γ (upd L d (.ow g' (n + m) sz)) (upd Γ g' (.row e sz (cs ++ ds))) :=
  OT.turns fun ρ a w h => by
    obtain ⟨hu, i, z, hi, hz, hsz, hby, hzs, h0⟩ := apt_parts ht
    obtain ⟨ob, hρ, hM, hrep⟩ := mrow_block h hg
    rcases src_vals h hx hA hok with ⟨_, rfl, _⟩ | ⟨b2, o2, c2, vs, hxv, v1, v2, v3, v4⟩
    · omega
    have key : ∃ us w', us.length = n * sz ∧ repL (KK C.K0 ρ Γ) w cs us ∧ (∀ u ∈ us, u.oneCell' = true) ∧ ∃ cap, (Builtin.append_ #[t, t] ty #[a.eval s, a.eval x]).run P w = .ok (.slice (some ⟨w.heap.size, 0, none⟩) (n + m) cap) w' ∧ w' = w.drew.alloc (.cells (us.toArray ++ vs.toArray ++ Builtin.zeroCells z.cells (cap - (n + m))) e) ∧ n + m ≤ cap ∧ cap ≤ maxLen := by
      rcases hrep with ⟨rfl, rfl⟩ | ⟨b, us, cap, rfl, q1, q2, q3, q4, q5, q6⟩
      · have hn0 : n = 0 := by
          rcases ev_rep h hs _ hρ with ⟨_, _, k⟩ | ⟨b', c', k, _⟩
          · exact k
          · cases k
        subst hn0
        have hv : a.eval s = .slice none 0 0 := by
          rcases ev_rep h hs _ hρ with ⟨_, k, _⟩ | ⟨b', c', k, _⟩
          · exact k
          · cases k
        subst hsz
        rw [Nat.zero_add] at hbig
        have hr := run_append_nil (P := P) w t ty e i z hu hi hz ⟨b2, o2, none⟩ m c2 vs v2 v3 (by omega) (by omega) (by rw [hby]; omega)
        refine ⟨[], _, by simp, by simp [repL], by simp, _, by rw [hv, hxv, hr, Nat.zero_add], by simp, by simpa using grownCap_ge w m 0 e, by simpa using grownCap_le_maxLen w m 0 e (by unfold maxLen; omega)⟩
      · rcases ev_rep h hs _ hρ with ⟨k, _⟩ | ⟨b', c', k, hv, k2, k3, k4⟩
        · cases k
        cases k
        have hc := lent_cap h hC.1 hg rfl hρ
        obtain rfl : c' = c := Nat.eq_of_mul_eq_mul_right h0 (k4.trans hc)
        subst hsz
        have hlu : (us.take cs.length).length = n * i.size := by rw [List.length_take, hl]; omega
        have hr := run_append_grow (P := P) w t ty e i z hu hi hz ⟨b, 0, none⟩ n c' (us.take cs.length) hlu (fun j v hj => by
          rw [addr_add]
          rw [List.getElem?_take] at hj
          split at hj
          · simp [World.cell?, q1, hj]
          · cases hj) ⟨b2, o2, none⟩ m c2 vs v2 v3 hroom (by omega) (growslice_fits hroom (by rw [hby]; exact hbig))
        exact ⟨us.take cs.length, _, hlu, q5, q6, _, by rw [hv, hxv, hr], rfl, grownCap_ge w (n + m) c' e, grownCap_le_maxLen w (n + m) c' e (by unfold maxLen; omega)⟩
    obtain ⟨us, w', hlu, hus, hones, cap, hr, rfl, hge, hcm⟩ := key
    generalize hcells : us.toArray ++ vs.toArray ++ Builtin.zeroCells z.cells (cap - (n + m)) = cells at hr
    have hsize : cells.size = cap * sz := by
      rw [← hcells]; simp only [Array.size_append, List.size_toArray, size_zeroCells, hzs, hlu, v2, ← Nat.add_mul]; congr 1; omega
    have htake : cells.toList.take (cs ++ ds).length = us ++ vs := by
      rw [← hcells, show (cs ++ ds).length = (us ++ vs).length by rw [List.length_append, List.length_append, repL_length hus, repL_length v1]]
      simp only [Array.toList_append]
      exact List.take_left
    obtain ⟨ρ', hr', hρ', hkk⟩ := h.fresh (g := g') (b := w.heap.size) (o' := .row e sz (cs ++ ds)) hg' (grown_alloc_drew w (.cells cells e)) ⟨Nat.le_refl _, by simp⟩ (by simp) rfl
      (fun K hK _ => .inr ⟨w.heap.size, cells.toList, cap, rfl, by rw [Array.toArray_toList]; exact heap_alloc_new w.drew _, by simpa using hsize, hcm, by
        have h1 : (cs ++ ds).length = (us ++ vs).length := by rw [List.length_append, List.length_append, repL_length hus, repL_length v1]
        have h2 := congrArg List.length htake
        rw [List.length_take, ← h1] at h2; omega, by rw [htake]; exact repL_mono hK _ _ (repL_append hus v1), by rw [htake]; intro u hu'; exact (List.mem_append.1 hu').elim (hones u) (v4 u)⟩)
    refine ⟨_, _, by simp only [execOp, resolve, invoke, builtin, Sem.run_bind, Sem.run_pure, Result.andThen_ok, List.map_toArray, List.map_cons, List.map_nil, hr]; rfl, ρ', hr'.put (by simpa using hn) (fun ob' hob => ?_) (fun g1 hg1 => ?_)⟩
    · rw [hρ'] at hob; cases hob
      refine .inr ⟨w.heap.size, cap, rfl, rfl, hge, hcm, ?_⟩
      have hh : (w.drew.alloc (.cells cells e)).heap[w.heap.size]? = some (.cells cells e (0, 0)) := heap_alloc_new w.drew _
      unfold bsz; rw [hh]; exact hsize.symm
    · cases hg1; rw [upd_same]; simp
/-- append(s[:i], make(.., k)...) beyond the room: a new row, of which the first i are known. -/
theorem OT.appzg {t ti e sz by_ i k n c : Nat} {s x y : Operand} {cs : List DV} (g' : Nat) (hC : CapN C sz c) (hn0 : 0 < n) (hroom : c < i + k) (hk0 : 0 < k) (hn : Nat.blt d C.n = true) (hy : ev L y = some (.ow 0 n sz)) (hs : ev L s = some (.ow 0 i sz)) (hx : evv L x = some (.int .i64 (k : Int))) (hg : Γ 0 = some (.mrow 0 e sz cs)) (hl : i * sz ≤ cs.length) (hg' : Γ g' = none) (ht : apt P t = some (e, sz, by_)) (hti : ukd P ti = some .i64)
    (hbig : (i + k) * by_ ≤ 140737488355328) (hmax : i + k ≤ 1099511627776) :
    OT P C ⟨some d, .call { callee := .builtin .append, args := #[s, x], argTypes := #[t, ti] }, ty, pos, af, gd⟩ L Γ (upd L d (.ow g' (i + k) sz)) (upd Γ g' (.row e sz (cs.take (i * sz)))) :=
  OT.turns fun ρ a w h => by
    obtain ⟨hu, j, z, hi, hz, hsz, hby, hzs, h0⟩ := apt_parts ht
    have hti' : P.underlying ti = some (.int .i64) := by
      unfold ukd at hti
      split at hti
      · rename_i q; rw [q]; cases hti; rfl
      · cases hti
    obtain ⟨ob, hρ, hM, hrep⟩ := mrow_block h hg
    obtain ⟨b0, rfl⟩ : ∃ b0, ob = some b0 := by
      rcases ev_rep h hy _ hρ with ⟨_, _, k⟩ | ⟨b', c', k, _⟩
      · omega
      · exact ⟨b', k⟩
    rcases hrep with ⟨k, _⟩ | ⟨b, us, cap, kk, q1, q2, q3, q4, q5, q6⟩
    · cases k
    cases kk
    rcases ev_rep h hs _ hρ with ⟨k, _⟩ | ⟨b', c', k, hv, k2, k3, k4⟩
    · cases k
    cases k
    have hc := lent_cap h hC.1 hg rfl hρ
    obtain rfl : c' = c := Nat.eq_of_mul_eq_mul_right h0 (k4.trans hc)
    subst hsz
    have hul : (us.take (i * j.size)).length = i * j.size := by rw [List.length_take]; omega
    have hwr : IntKind.i64.wrap (k : Int) = k := by rw [IntKind.wrap_i64]; omega
    have hneg : ¬ ((k : Int) < 0) := by omega
    have hkn : k ≠ 0 := by omega
    have hs' : j.size ≠ 0 := by omega
    have hnr : ¬ (i + k ≤ c') := by omega
    have hb : ¬ ((281474976710656 : Int) < (k : Int) * (j.bytes : Int)) := by
      have h1 : k * j.bytes ≤ (i + k) * by_ := by rw [hby]; exact Nat.mul_le_mul_right _ (by omega)
      have : ((k * j.bytes : Nat) : Int) ≤ 140737488355328 := by omega
      rw [Int.natCast_mul] at this; omega
    have h63' : ¬ (9223372036854775807 < ((i : Int) + (k : Int))) := by omega
    have h48' : ¬ (281474976710656 < Builtin.nextslicecap (i + k) c' * j.bytes) := by
      have := growslice_fits (need := i + k) (old := c') (by omega) (show (i + k) * j.bytes ≤ 140737488355328 by rw [hby]; exact hbig)
      omega
    have hfo := run_firstCells_some (P := P) w.drew j.size i ⟨b0, 0, none⟩ i c' (us.take (i * j.size)) hul (fun q v hq => by
      have q1' : w.drew.heap[b0]? = some (.cells us.toArray e (0, 0)) := q1
      rw [addr_add]
      rw [List.getElem?_take] at hq
      split at hq
      · simp [World.cell?, q1', hq]
      · cases hq)
    have hr : (Builtin.append_ #[t, ti] ty #[.slice (some ⟨b0, 0, none⟩) i c', .int .i64 (k : Int)]).run P w = .ok (.slice (some ⟨w.heap.size, 0, none⟩) (i + k) (grownCap w (i + k) c' e))
        (w.drew.alloc (.cells ((us.take (i * j.size)).toArray ++ Builtin.zeroCells z.cells k ++ Builtin.zeroCells z.cells (grownCap w (i + k) c' e - (i + k))) e)) := by
      simp [Builtin.append_, run_underlying hu, run_underlying hti', sizeOf, typeInfo, zeroValue, hi, hz, asInt, asIntOf, hwr, hneg, hkn, hs', hb, hnr, h63', h48', Question.forced, hfo, newRow, grownCap, Nat.mul_ne_zero hkn hs']
    have hge := grownCap_ge w (i + k) c' e
    have hcm := grownCap_le_maxLen w (i + k) c' e (by unfold maxLen; omega)
    generalize grownCap w (i + k) c' e = cp at hr hge hcm
    generalize hcells : (us.take (i * j.size)).toArray ++ Builtin.zeroCells z.cells k ++ Builtin.zeroCells z.cells (cp - (i + k)) = cells at hr
    have hsize : cells.size = cp * j.size := by
      rw [← hcells]; simp only [Array.size_append, List.size_toArray, size_zeroCells, hzs, hul, ← Nat.add_mul]; congr 1; omega
    have hct : (cs.take (i * j.size)).length = i * j.size := by rw [List.length_take]; omega
    have htake : cells.toList.take (cs.take (i * j.size)).length = us.take (i * j.size) := by
      rw [← hcells, hct, Array.toList_append, Array.toList_append, List.append_assoc]
      have := hul
      rw [List.take_append_of_le_length (by simp; omega)]
      simp [List.take_take]
    have hrr : repL (KK C.K0 ρ Γ) w (cs.take (i * j.size)) (us.take (i * j.size)) := by
      have := repL_take (i * j.size) q5
      rwa [List.take_take, Nat.min_eq_left hl] at this
    obtain ⟨ρ', hr', hρ', hkk⟩ := h.fresh (g := g') (b := w.heap.size) (o' := .row e j.size (cs.take (i * j.size))) hg' (grown_alloc_drew w (.cells cells e)) ⟨Nat.le_refl _, by simp⟩ (by simp) rfl
      (fun K hK _ => .inr ⟨w.heap.size, cells.toList, cp, rfl, by rw [Array.toArray_toList]; exact heap_alloc_new w.drew _, by simpa using hsize, hcm, by
        rw [hct]; have : i * j.size ≤ cp * j.size := Nat.mul_le_mul_right _ (by omega)
        simpa [hsize] using this, by rw [htake]; exact repL_mono hK _ _ hrr, by
          rw [htake]; intro u hu'
          refine q6 u ?_
          rw [← Nat.min_eq_left hl, ← List.take_take] at hu'
          exact List.mem_of_mem_take hu'⟩)
    refine ⟨_, _, by simp only [execOp, resolve, invoke, builtin, Sem.run_bind, Sem.run_pure, Result.andThen_ok, List.map_toArray, List.map_cons, List.map_nil, hv, evv_eval h hx, hr]; rfl, ρ', hr'.put (by simpa using hn) (fun ob' hob => ?_) (fun g1 hg1 => ?_)⟩
    · rw [hρ'] at hob; cases hob
      refine .inr ⟨w.heap.size, cp, rfl, rfl, hge, hcm, ?_⟩
      have hh : (w.drew.alloc (.cells cells e)).heap[w.heap.size]? = some (.cells cells e (0, 0)) := heap_alloc_new w.drew _
      unfold bsz; rw [hh]; exact hsize.symm
    · cases hg1; rw [upd_same]; simp
end
end Go.Proofs.YtmjokdhhniblgaaGreat.Pl
end
section
namespace Go.Proofs.YtmjokdhhniblgaaGreat.Pl
set_option linter.unusedVariables false
set_option linter.unusedSimpArgs false
open Go.RowKit
/-- What comes back of a row that was given away. -/
def Gave (e sz : Nat) (cs' : List DV) (n' : Nat) (w : World) (ob : Option Nat) (u : Value) (w' : World) : Prop := ∃ ob', Kept (fun b => ob = some b) w w' ∧ (∀ b, ob' = some b → (ob = some b ∨ w.heap.size ≤ b) ∧ b < w'.heap.size) ∧ (∀ K', (AO.row e sz cs').rep K' w' ob') ∧ ∀ ρ g K B, ρ g = some ob' → (AV.ow g n' sz).rep ρ K B w' u
/-- A contract: the row is given away; what comes back is it, turned, or a new one. -/
def PA (P : Program) (f : FuncId) (As : List AV) (e sz : Nat) (cs cs' : List DV) (n' : Nat) : Prop := ∀ w K ob us, (∀ b, K b → b < w.heap.size ∧ ob ≠ some b) → (∀ b, ob = some b → b < w.heap.size) → (AO.mrow 0 e sz cs).rep (KM K ob) w ob → repsA (one ob) (KM K ob) w.heap.size w As us →
  Calls P f us.toArray w fun r w' => ∃ u, r = .returned u ∧ Gave e sz cs' n' w ob u w'
theorem PA.enter {P : Program} {f : FuncId} {fn : Func} {c : Code} {As : List AV} {e sz n' : Nat} {cs cs' : List DV} (hf : P.funcs[f]? = some fn) (hb : fn.body = some c) {nt : Nat} (hnt : fn.ntmps = nt) (hn : Nat.ble As.length nt = true) (hids : (As.all fun A => match A.id with | none => true | some g => Nat.beq g 0) = true)
    (h : ∀ w K ob cp, CapN ⟨w, K, nt, one ob⟩ sz cp → cp ≤ maxLen → TC P ⟨w, K, nt, one ob⟩ c (bodyPost P fn fun r w' => ∃ u, r = .returned u ∧ Gave e sz cs' n' w ob u w') (argA As) (G1 (.mrow 0 e sz cs))) : PA P f As e sz cs cs' n' := by
  intro w K ob us hK hlt ho hr
  subst hnt
  have hlen := repsA_length hr
  have hcap : ∃ cp, CapN ⟨w, K, fn.ntmps, one ob⟩ sz cp ∧ cp ≤ maxLen := by
    rcases ho with ⟨rfl, _⟩ | ⟨b, vs, cap, rfl, q1, q2, q3, _⟩
    · exact ⟨0, ⟨fun b hb => (by have := (one_some (g := 0) (ob := none) (x := some b) hb).2; cases this), fun _ => rfl⟩, by unfold maxLen; omega⟩
    · refine ⟨cap, ⟨fun b' hb => ?_, fun hb => (by have := (one_some (g := 0) (ob := some b) (x := none) hb).2; cases this)⟩, q3⟩
      have := (one_some (g := 0) (ob := some b) (x := some b') hb).2; cases this
      refine ⟨?_, hlt b rfl⟩
      show bsz w b = _
      unfold bsz; rw [q1]; simpa using q2
  obtain ⟨cp, hcp, hcm⟩ := hcap
  refine calls_of_wp hf hb (h w K ob cp hcp hcm _ _ ⟨one ob, ?_⟩)
  have hKK : KK K (one ob) (G1 (.mrow 0 e sz cs)) = KM K ob := KM_eq (by simp)
  refine ⟨rfl, by simp at hn ⊢; omega, fun b hb => ⟨(hK b hb).1, fun ⟨k, e⟩ => (hK b hb).2 (one_some e).2.symm⟩, Kept.refl _ _, fun g hg => ?_, fun t X g ht hg => ?_, fun g b e => hlt b (one_some e).2.symm, fun g g' b e e' _ _ => by rw [(one_some e).1, (one_some e').1],
    fun g b o e _ hkey _ => ?_, fun g o k ob' e hkey hob => ?_, fun g o e _ => ?_, fun t X ht => ?_⟩
  · cases hb : Nat.beq g 0 with
    | false => simp [one, hb]
    | true => rw [Nat.beq_eq] at hb; subst hb; exact absurd ⟨_, by simp [G1, upd]; rfl, by simp⟩ hg
  · have := List.all_eq_true.1 hids X (List.mem_of_getElem? ht)
    rw [hg] at this
    rw [Nat.beq_eq] at this; subst this
    simp [G1, upd]
  · obtain ⟨_, rfl⟩ := G1_some e
    cases hkey
  · obtain ⟨rfl, rfl⟩ := G1_some e
    cases hkey
    exact hob
  · obtain ⟨rfl, rfl⟩ := G1_some e
    exact ⟨ob, by simp [one], by rw [hKK]; exact ho⟩
  · obtain ⟨u, h1, h2⟩ := repsA_get hr ht
    have htl : t < us.length := (List.getElem?_eq_some_iff.1 h1).1
    have : (us.toArray ++ Array.replicate (fn.ntmps - us.toArray.size) undef).getD t undef = u := by
      rw [Array.getD_eq_getD_getElem?, Array.getElem?_append_left (by simpa using htl)]
      simp [h1]
    show AV.rep _ _ _ w X _
    rw [hKK]
    have e2 : (({ tmps := us.toArray ++ Array.replicate (fn.ntmps - us.toArray.size) undef, defers := [] } : Act).tmps).getD t undef = u := this
    rw [e2]
    exact h2
theorem row_pl {e sz : Nat} {cs : List DV} {K : Nat → Prop} {w : World} {ob : Option Nat} (hp : ∀ X ∈ cs, Pl X) (h : (AO.row e sz cs).rep K w ob) (K' : Nat → Prop) : (AO.row e sz cs).rep K' w ob := by
  rcases h with h | ⟨b, us, cap, h1, h2, h3, h4, h5, h6, h7⟩
  · exact .inl h
  · exact .inr ⟨b, us, cap, h1, h2, h3, h4, h5, pl_list hp _ _ _ _ _ h6, h7⟩
section
variable {P : Program} {C : Cx} {L : Lo} {Γ : Ga}
/-- The row comes back. -/
theorem TE.reta {fn : Func} {t e sz n' : Nat} {cs' : List DV} {w0 : World} {K : Nat → Prop} {n : Nat} {ob : Option Nat} (hf : fn.results = #[.tmp t]) (hr : L t = some (.ow 0 n' sz)) (hg : Γ 0 = some (.mrow 0 e sz cs')) (hp : ∀ X ∈ cs', Pl X) :
    TE ⟨w0, K, n, one ob⟩ (bodyPost P fn (fun r w' => ∃ u, r = .returned u ∧ Gave e sz cs' n' w0 ob u w') .ret) L Γ := fun a w ⟨ρ, h⟩ => by
  obtain ⟨q1, q2, q3, q4⟩ := lent_back h hg rfl
  have hs := h.slot t _ hr
  refine ⟨h.df, _, results_run (rs := [.tmp t]) hf [a.tmps.getD t undef] (by simp [List.mapM_cons, oneRes]), _, rfl, ob, q1, fun b e => ⟨.inl e, h.lt 0 b (by rw [q4, e])⟩, fun K' => row_pl hp q2 K', fun ρ' g K B hρ' ob2 h2 => ?_⟩
  rw [hρ'] at h2; cases h2
  exact hs ob q4
/-- A new row comes back. -/
theorem TE.retan {fn : Func} {t e sz n' g e0 sz0 : Nat} {cs' cs0 : List DV} {w0 : World} {K : Nat → Prop} {n : Nat} {ob : Option Nat} (hf : fn.results = #[.tmp t]) (hr : L t = some (.ow g n' sz)) (hg : Γ g = some (.row e sz cs')) (h0 : Γ 0 = some (.mrow 0 e0 sz0 cs0)) (hp : ∀ X ∈ cs', Pl X) :
    TE ⟨w0, K, n, one ob⟩ (bodyPost P fn (fun r w' => ∃ u, r = .returned u ∧ Gave e sz cs' n' w0 ob u w') .ret) L Γ := fun a w ⟨ρ, h⟩ => by
  obtain ⟨q1, q2, q3, q4⟩ := lent_back h h0 rfl
  obtain ⟨ob', h1, h2⟩ := h.obj g _ hg (by simp)
  have hs := h.slot t _ hr
  refine ⟨h.df, _, results_run (rs := [.tmp t]) hf [a.tmps.getD t undef] (by simp [List.mapM_cons, oneRes]), _, rfl, ob', q1, fun b e => ⟨.inr (h.new g b _ hg (by simp) rfl (by rw [h1, e])), h.lt g b (by rw [h1, e])⟩, fun K' => row_pl hp h2 K', fun ρ' g K B hρ' ob2 h2 => ?_⟩
  rw [hρ'] at h2; cases h2
  exact hs ob' h1
end
section
variable {P : Program} {C : Cx} {L : Lo} {Γ : Ga} {d : Nat} {ty : TypeId} {pos : String} {af : Array Edge} {gd : Option (Nat × Bool)}
/-- The call: the elder row is gone, a row is there anew. -/
theorem OT.calla {f : FuncId} {xs : List Operand} {at_ : Array TypeId} {As : List AV} {e sz n' : Nat} {cs cs' : List DV} (g g' : Nat) (hn : Nat.blt d C.n = true) (hf : cfn P f = true) (hg : Γ g = some (.row e sz cs)) (hg' : Γ g' = none) (hx : evM L g xs = some As) (hc : PA P f As e sz cs cs' n') :
    OT P C ⟨some d, .call { callee := .value (.func f), args := xs.toArray, argTypes := at_ }, ty, pos, af, gd⟩ L Γ (upd L d (.ow g' n' sz)) (upd (upd Γ g .dead) g' (.row e sz cs')) := by
  rintro a w ⟨ρ, h⟩
  obtain ⟨ob, h1, h2⟩ := h.obj g _ hg (by simp)
  unfold Oper.wp
  rw [call_run hf, Oper.upon_enter]
  let K : Nat → Prop := fun b => KK C.K0 ρ Γ b ∧ ob ≠ some b
  have hKM : KM K ob = KK C.K0 ρ Γ := by
    funext b
    refine propext ⟨?_, fun hb => ?_⟩
    · rintro (hb | hb)
      · exact hb.1
      · exact .inr ⟨g, ⟨_, hg, by simp⟩, by rw [h1, hb]⟩
    · by_cases e : ob = some b
      · exact .inr e
      · exact .inl ⟨hb, e⟩
  refine (hc w K ob _ (fun b hb => ⟨kk_lt h b (.inl hb.1), hb.2⟩) (fun b e => h.lt g b (by rw [h1, e])) (by rw [hKM]; exact h2) (by rw [hKM]; exact evM_rep h h1 hx)).mono ?_
  rintro r w' ⟨u, rfl, ob', hk, hlt, hrow, hu⟩
  have hgr : w.grownBy w' ob := ⟨hk.os, hk.tape, hk.output, hk.size, fun k hk1 hne => hk.block k hk1 (fun e => hne e.symm)⟩
  obtain ⟨ρ', hr, hρ', _⟩ := h.gain (g := g') (ob := ob) (ob' := ob') (o' := .row e sz cs') (w' := w') (Γ1 := upd Γ g .dead) hg'
    (fun g1 o1 h1 h2 => (upd_some h1).elim (fun e => absurd e.2 h2) (fun e => e.2))
    (fun g1 h1 => by
      by_cases e : g1 = g
      · subst e; rw [upd_same]; simp
      · rw [upd_other _ _ _ _ e]; exact h1)
    (fun b g1 eb hl1 hρ1 => by
      obtain ⟨o1, p1, p2⟩ := hl1
      rcases upd_some p1 with ⟨_, e⟩ | ⟨hne, p1⟩
      · exact p2 e
      · exact hne (h.inj g1 g b hρ1 (by rw [h1, eb]) ⟨o1, p1, p2⟩ ⟨_, hg, by simp⟩))
    (fun b eb => ⟨h.new g b _ hg (by simp) rfl (by rw [h1, eb]), g, ⟨_, hg, by simp⟩, by rw [h1, eb]⟩) hgr hlt (by simp) rfl (fun K' _ _ => hrow K')
  exact ⟨ρ', hr.put (by simpa using hn) (fun ob2 hob => hu ρ' g' noK 0 hρ' ob2 hob) (fun g1 hg1 => by cases hg1; rw [upd_same]; simp)⟩
theorem RepsAt.put0 {ρ : Rho} {a : Act} {w : World} (h : RepsAt C ρ L Γ a w) (hd : d < C.n) (hL : L d = none) (u : Value) : RepsAt C ρ L Γ (a.put (some d) u) w :=
  ⟨h.df, by simp [Act.put, h.sz], h.k0, h.fr, h.dom, h.ment, h.lt, h.inj, h.new, h.len, h.obj, fun t Y ht => by
    have hne : t ≠ d := by rintro rfl; rw [hL] at ht; cases ht
    have := h.slot t Y ht
    rw [getD_put a d t u (by rw [h.sz]; exact hd), if_neg hne]
    exact this⟩
/-- A part that nobody asks for. -/
theorem OT.slicei {t e n sz g : Nat} {x : Operand} {lo : Option Operand} {o : AO} {cs : List DV} {l : Int} (hn : Nat.blt d C.n = true) (hL : L d = none) (hx : ev L x = some (.ow g n sz)) (hg : Γ g = some o) (ho : o.cells = some cs) (ht : elt P t = some (e, sz)) (hl : bnd L 0 lo = some l) (h0 : 0 ≤ l) (h1 : l ≤ n) :
    OT P C ⟨some d, .slice t x lo none none, ty, pos, af, gd⟩ L Γ L Γ :=
  OT.turns fun ρ a w h => by
    obtain ⟨ob, h3'⟩ := own_block h hg ho
    obtain ⟨hu, j, hi', hj⟩ := elt_parts ht
    have fin : ∀ v, (execOp a.eval ⟨some d, .slice t x lo none none, ty, pos, af, gd⟩).run P w = .ok (.value v) w → ∃ u w', (execOp a.eval ⟨some d, .slice t x lo none none, ty, pos, af, gd⟩).run P w = .ok (.value u) w' ∧ Reps C L Γ (a.put (some d) u) w' := fun v hv => ⟨v, w, hv, ρ, h.put0 (by simpa using hn) hL v⟩
    rcases ev_rep h hx ob h3' with ⟨rfl, hv, rfl⟩ | ⟨b, c, rfl, hv, k2, k3, k4⟩
    · have hl0 : l = 0 := by omega
      subst hl0
      have hb := bounds_run (P := P) h true 0 0 (Nat.le_refl _) hl (hi := none) rfl (Int.le_refl 0) (Int.le_refl 0) (Int.le_refl 0)
      exact fin (.slice none 0 0) (by simp at hb; simp [execOp, hv, Instr.sliceAt, Instr.slice, run_underlying hu, hb, sizeOf, typeInfo, hi', hj])
    · have hb := bounds_run (P := P) h true n c k2 hl (hi := none) rfl h0 h1 (Int.le_refl _)
      simp at hb
      exact fin (.slice (some ⟨b, if c = l.toNat then 0 else l.toNat * sz, none⟩) (n - l.toNat) (c - l.toNat)) (by
        by_cases hne : c = l.toNat
        · rw [← hne] at hb ⊢
          simp [execOp, hv, Instr.sliceAt, Instr.slice, run_underlying hu, hb, sizeOf, typeInfo, hi', hj, addr_add]
        · simp [execOp, hv, Instr.sliceAt, Instr.slice, run_underlying hu, hb, sizeOf, typeInfo, hi', hj, addr_add, hne])
theorem run_overlaps_plain (w : World) (tS tR e : TypeId) (ht : P.underlying tS = some (.slice e)) (size : Nat) (hz : ∀ w, (Go.sizeOf e).run P w = .ok size w)
    (a b : Addr) (la ca lb cb : Nat) (hne : a.block ≠ b.block) {cA cB : Array Value} {tA tB : TypeId} {fA : Nat × Nat} (hA : w.heap[a.block]? = some (.cells cA tA fA)) (h0 : cA.size ≠ 0) (hB : w.heap[b.block]? = some (.cells cB tB (0, 0))) :
    (Extern.SlicesOverlaps.overlaps #[tS, tS] #[tR] #[.slice (some a) la ca, .slice (some b) lb cb]).run P w = .ok (.bool false) w := by
  have hnb : (a.block != b.block) = true := by simpa using hne
  have hnb' : (a.block == b.block) = false := by simpa using hne
  have hsa : w.shape? a.block = some (tA, cA.size) := by unfold World.shape?; rw [hA]
  have hsb : w.shape? b.block = some (tB, cB.size) := by unfold World.shape?; rw [hB]
  have hfb : ∀ o, w.frozen? ⟨b.block, o, none⟩ = false := fun o => by unfold World.frozen?; rw [hB]; simp
  have hfb1 : w.frozen? b = false := by unfold World.frozen?; rw [hB]; simp
  change Sem.run P (α := Value) (do
    let some t := (#[tS, tS] : Array TypeId)[0]? | stuck "slices.overlaps: no parameter types"
    let .slice elem ← underlying t | stuck "slices.overlaps: slice type expected"
    let size ← sizeOf elem
    match (some a : Option Addr), (some b : Option Addr) with
    | some a, some b =>
      if la = 0 ∨ lb = 0 ∨ size = 0 then pure (Value.bool false)
      else if a.block != b.block && (← frozen a) && (← frozen b) then unsupported .addressObserved
      else do
        if a.block != b.block then do
          noView a; noView b
          if ← mayBeOne a b then return Value.bool ((← choose (.extern "sameAddr.stringBytes" 2)) == 1)
        pure (Value.bool (a.block == b.block && a.off < b.off + lb * size && b.off < a.off + la * size))
    | _, _ => pure (Value.bool false)) w = _
  by_cases hz0 : la = 0 ∨ lb = 0 ∨ size = 0
  · simp [run_underlying ht, hz, hz0]
  · obtain ⟨k, hk⟩ : ∃ k, cA.size = k + 1 := ⟨cA.size - 1, by omega⟩
    rw [hk] at hsa
    cases hf1 : w.frozen? a <;> simp [run_underlying ht, hz, hz0, hnb, hnb', frozen, noView, viewAt, mayBeOne, stringish, shape, Sem.run, hsa, hsb, hfb, hfb1, hf1]
/-- What the library asks of two slices in two blocks. -/
theorem OT.overl {f : FuncId} {fn : Func} {t tr e sz m nd off : Nat} {x y : Operand} {at_ : Array TypeId} {ds cs : List DV} {e' : Nat} (hf : P.funcs[f]? = some fn) (hname : (fn.name == "runtime.NumGoroutine") = false) (hb : fn.body.isNone = true) (hnx : Extern.findNext fn = none) (he : Extern.find fn = some (Extern.SlicesOverlaps.overlaps #[t, t] #[tr]))
    (ht : elt P t = some (e, sz)) (hn : Nat.blt d C.n = true) (hx : ev L x = some (.d (.sl sz m ds))) (hm : 0 < m) (h0 : 0 < sz) (hy : ev L y = some (.bs 0 off nd sz)) (hg : Γ 0 = some (.mrow 0 e' sz cs)) :
    OT P C ⟨some d, .call { callee := .value (.func f), args := #[x, y], argTypes := at_ }, ty, pos, af, gd⟩ L Γ (upd L d (.f (.v (.bool false)))) Γ :=
  OT.value hn (fun g hg => by simp [AV.id] at hg) fun ρ a w h => by
    obtain ⟨ob, h1, h2⟩ := h.obj 0 _ hg (by simp)
    obtain ⟨hu, j, hi, hj⟩ := elt_parts ht
    obtain ⟨b, c, rfl, hv, k2, k3, k4⟩ := ev_rep h hy ob h1
    rcases h2 with ⟨q, _⟩ | ⟨b', us, cap, q, q1, _⟩
    · cases q
    cases q
    have hxr : DV.rep (KK C.K0 ρ Γ) w (.sl sz m ds) (a.eval x) := ev_rep h hx
    unfold DV.rep at hxr
    rcases hxr with ⟨_, q, _⟩ | ⟨b2, o2, c2, hxv, _, _, r3, r4, r5⟩
    · omega
    have hds : ds ≠ [] := by
      rintro rfl
      have := Nat.mul_pos hm h0
      simp at r3; omega
    have hb2 := r4.resolve_left hds
    have hne : b2 ≠ b := fun e => hb2.2 (.inr ⟨0, ⟨_, hg, by simp⟩, by rw [h1, e]⟩)
    cases ds with
    | nil => exact absurd rfl hds
    | cons X Xs =>
      unfold repAt at r5
      obtain ⟨⟨u, s1, _⟩, _⟩ := r5
      have hA : ∃ cA tA fA, w.heap[b2]? = some (.cells cA tA fA) ∧ cA.size ≠ 0 := by
        unfold World.cell? at s1
        split at s1
        · rename_i cA tA fA q
          refine ⟨_, _, _, q, fun e => ?_⟩
          have := (Array.getElem?_eq_some_iff.1 s1).1
          omega
        · cases s1
      obtain ⟨cA, tA, fA, hA, hA0⟩ := hA
      have hrun := run_overlaps_plain (P := P) w t tr e hu sz (fun w => by simp [sizeOf, typeInfo, hi, hj]) ⟨b2, o2, none⟩ ⟨b, off, none⟩ m c2 nd c hne hA hA0 q1
      have e1 : a.eval (.func f) = .func (.func f) #[] #[] := rfl
      exact ⟨.bool false, by simp [execOp, resolve, e1, Deferred.ofValue, invoke, run_callFunc_extern hf hname hb hnx he, hxv, hv, hrun], rfl⟩
end
end Go.Proofs.YtmjokdhhniblgaaGreat.Pl
end
section
namespace Go.Proofs.YtmjokdhhniblgaaGreat.Pl
set_option linter.unusedVariables false
set_option linter.unusedSimpArgs false
open Go.RowKit
section
variable {P : Program} {C : Cx} {L : Lo} {Γ : Ga} {ρ : Rho} {a : Act} {w : World}
/-- A slot is told anew. -/
theorem RepsAt.tell (h : RepsAt C ρ L Γ a w) (t : Nat) (Y : AV) (hY : Y.rep ρ (KK C.K0 ρ Γ) C.w0.heap.size w (a.tmps.getD t undef)) (hi : ∀ g, Y.id = some g → Γ g ≠ none) : RepsAt C ρ (upd L t Y) Γ a w := by
  refine ⟨h.df, h.sz, h.k0, h.fr, h.dom, fun s X g hs hg => ?_, h.lt, h.inj, h.new, h.len, h.obj, fun s X hs => ?_⟩
  · rcases upd_some hs with ⟨rfl, rfl⟩ | ⟨_, hs⟩
    · exact hi g hg
    · exact h.ment s X g hs hg
  · rcases upd_some hs with ⟨rfl, rfl⟩ | ⟨_, hs⟩
    · exact hY
    · exact h.slot s X hs
theorem v_rep {K : Nat → Prop} {w : World} {u x : Value} (h : (DV.v u).rep K w x) : x = u := by unfold DV.rep at h; exact h
/-- A row is named: its slice's value becomes a letter. -/
theorem reps_name (t : Nat) {g n sz T : Nat} {cs : List DV} (ht : L t = some (.ow g n sz)) (hg : Γ g = some (.row T sz cs)) (h : Reps C L Γ a w) : ∃ ad c, Reps C (upd L t (.d (.v (.slice ad n c)))) (upd Γ g (.nrow (.slice ad n c) n T sz cs)) a w := by
  obtain ⟨ρ, h⟩ := h
  obtain ⟨ob, h1, h2⟩ := h.obj g _ hg (by simp)
  have hs := h.slot t _ ht ob h1
  have hu : ∃ ad c, a.tmps.getD t undef = .slice ad n c := by
    rcases hs with ⟨_, hu, rfl⟩ | ⟨b, c, _, hu, _⟩
    · exact ⟨_, _, hu⟩
    · exact ⟨_, _, hu⟩
  obtain ⟨ad, c0, hu⟩ := hu
  refine ⟨ad, c0, ρ, ?_⟩
  rw [← hu]
  have hr : (AO.nrow (a.tmps.getD t undef) n T sz cs).rep (KK C.K0 ρ Γ) w ob := by
    rcases hs with ⟨e, hu, hn⟩ | ⟨b, c, e, hu, k1, k2, k3⟩
    · subst e
      rcases h2 with ⟨_, q⟩ | ⟨b', _, _, q, _⟩
      · exact .inl ⟨rfl, hu, hn, q⟩
      · cases q
    · subst e
      rcases h2 with ⟨q, _⟩ | ⟨b', us, cap, q, q1, q2, q3, q4, q5, q6⟩
      · cases q
      · cases q
        refine .inr ⟨b, us, c, rfl, hu, k1, q1, ?_, k2, q4, q5, q6⟩
        rw [k3]; unfold bsz; rw [q1]; simp
  have h' := h.lent hg (by simp) h1 (Kept.refl _ w) (o' := .nrow (a.tmps.getD t undef) n T sz cs) (by simp) rfl hr
  exact h'.tell t _ (by show DV.rep _ _ _ _; unfold DV.rep; rfl) (fun g' e => by simp [AV.id] at e)
theorem TE.name {R : Act → World → Prop} (t : Nat) {g n sz T : Nat} {cs : List DV} (ht : L t = some (.ow g n sz)) (hg : Γ g = some (.row T sz cs)) (k : ∀ ad c, TE C R (upd L t (.d (.v (.slice ad n c)))) (upd Γ g (.nrow (.slice ad n c) n T sz cs))) : TE C R L Γ := fun a w h => by
  obtain ⟨ad, c, h⟩ := reps_name t ht hg h
  exact k ad c a w h
theorem TL.name {ops : Array Oper} {Q : Exit → Act → World → Prop} {rest : List Oper} (t : Nat) {g n sz T : Nat} {cs : List DV} (ht : L t = some (.ow g n sz)) (hg : Γ g = some (.row T sz cs)) (k : ∀ ad c, TL P C ops Q rest (upd L t (.d (.v (.slice ad n c)))) (upd Γ g (.nrow (.slice ad n c) n T sz cs))) : TL P C ops Q rest L Γ := fun a w h => by
  obtain ⟨ad, c, h⟩ := reps_name t ht hg h
  exact k ad c a w h
/-- An element of a named row, by the row's value. -/
theorem OT.idxn {t e n sz g d : Nat} {x y : Operand} {k : IntKind} {i : Int} {u : Value} {T : TypeId} {cs : List DV} {ty : TypeId} {pos : String} {af : Array Edge} {gd : Option (Nat × Bool)} (hn : Nat.blt d C.n = true) (hx : evv L x = some u) (hy : evv L y = some (.int k i)) (hg : Γ g = some (.nrow u n T sz cs)) (ht : elt P t = some (e, sz)) (h0 : 0 ≤ i) (h1 : i < n) :
    OT P C ⟨some d, .indexAddr t x y, ty, pos, af, gd⟩ L Γ (upd L d (.ptr g (i.toNat * sz))) Γ :=
  OT.value hn (fun g' hg' ρ a w h => by simp only [AV.id, Option.some.injEq] at hg'; subst hg'; rw [hg]; simp) fun ρ a w h => by
    obtain ⟨ob, h3, h4⟩ := h.obj g _ hg (by simp)
    rcases h4 with ⟨_, _, h2, _⟩ | ⟨b, us, c, rfl, h2, _⟩
    · omega
    · obtain ⟨hu, j, hi, hj⟩ := elt_parts ht
      have hi2 : 0 ≤ i ∧ i < (n : Int) := ⟨h0, h1⟩
      exact ⟨.pointer (some ⟨b, i.toNat * sz, none⟩), by simp [execOp, evv_eval h hx, h2, evv_eval h hy, Instr.indexAt, run_underlying hu, asIntOf, hi2, sizeOf, typeInfo, hi, hj, addr_add], fun ob' h5 => by rw [h3] at h5; cases h5; exact ⟨b, rfl, rfl⟩⟩
theorem OT.lenn {t : TypeId} {n sz g d : Nat} {x : Operand} {u : Value} {T : TypeId} {cs : List DV} {ty : TypeId} {pos : String} {af : Array Edge} {gd : Option (Nat × Bool)} (hn : Nat.blt d C.n = true) (hx : evv L x = some u) (hg : Γ g = some (.nrow u n T sz cs)) (ht : isSl P t = some true) :
    OT P C ⟨some d, .call { callee := .builtin .len, args := #[x], argTypes := #[t] }, ty, pos, af, gd⟩ L Γ (upd L d (.f (.v (.int .i64 (n : Int))))) Γ :=
  OT.value hn (fun g' hg' => by simp [AV.id] at hg') fun ρ a w h => by
    obtain ⟨ob, h3, h4⟩ := h.obj g _ hg (by simp)
    rcases h4 with ⟨_, h2, h5, _⟩ | ⟨b, us, c, rfl, h2, _⟩
    · exact ⟨.int .i64 (n : Int), by subst h5; simp [execOp, resolve, invoke, builtin, evv_eval h hx, h2, len_sl ht], rfl⟩
    · exact ⟨_, by simp [execOp, resolve, invoke, builtin, evv_eval h hx, h2, len_sl ht], rfl⟩
theorem reps_killn {g : Nat} {u : Value} {n T sz : Nat} {cs : List DV} (hg : Γ g = some (.nrow u n T sz cs)) (hl : cs.length = n * sz) (h : RepsAt C ρ L Γ a w) : ∃ ρ', RepsAt C ρ' L (upd Γ g .dead) a w ∧ (DV.sl sz n cs).rep (KK C.K0 ρ' (upd Γ g .dead)) w u := by
  obtain ⟨ob, h1, h2⟩ := h.obj g _ hg (by simp)
  classical
  let ρ' : Rho := fun x => if x = g then none else ρ x
  have r1 : ∀ x y, ρ' x = some y → x ≠ g ∧ ρ x = some y := fun x y hx => by
    by_cases e : x = g
    · simp [ρ', e] at hx
    · simp [ρ', e] at hx; exact ⟨e, hx⟩
  have hlv : ∀ x, live (upd Γ g .dead) x → x ≠ g ∧ live Γ x := fun x ⟨o, p, q⟩ => by
    rcases upd_some p with ⟨_, e⟩ | ⟨hne, p⟩
    · exact absurd e q
    · exact ⟨hne, o, p, q⟩
  have hk : Keeps (KK C.K0 ρ Γ) (KK C.K0 ρ' (upd Γ g .dead)) w w := fun b hb hn => ⟨rfl, hb, fun x => hn (x.elim .inl fun ⟨x, p, q⟩ => .inr ⟨x, (hlv x p).2, (r1 x _ q).2⟩)⟩
  refine ⟨ρ', ⟨h.df, h.sz, h.k0, h.fr, fun x hx => ?_, fun s X x hs hX => ?_, fun x b hb => h.lt x b (r1 x _ hb).2, fun x y b p q l1 l2 => h.inj x y b (r1 x _ p).2 (r1 y _ q).2 (hlv x l1).2 (hlv y l2).2, fun x b o k1 k2 k3 p => (upd_some k1).elim (fun e => absurd e.2 k2) (fun e => h.new x b o e.2 k2 k3 (r1 x _ p).2), fun x o k ob' k1 k3 p => (upd_some k1).elim (fun e => by rw [e.2] at k3; cases k3) (fun e => h.len x o k ob' e.2 k3 (r1 x _ p).2), fun x o p q => ?_, fun s X hs => ?_⟩, ?_⟩
  · by_cases e : x = g
    · simp [ρ', e]
    · have : ¬ live Γ x := fun ⟨o, p, q⟩ => hx ⟨o, by rw [upd_other _ _ _ _ e]; exact p, q⟩
      simp [ρ', e, h.dom x this]
  · by_cases e : x = g
    · subst e; rw [upd_same]; simp
    · rw [upd_other _ _ _ _ e]; exact h.ment s X x hs hX
  · rcases upd_some p with ⟨_, e⟩ | ⟨hne, p⟩
    · exact absurd e q
    · obtain ⟨oo, k1, k2⟩ := h.obj x o p q
      exact ⟨oo, by simp [ρ', hne, k1], AO.rep_mono hk (fun _ _ => rfl) o k2⟩
  · have hX := h.slot s X hs
    cases X with
    | d X => exact DV.rep_mono hk X _ hX
    | f X => exact DV.rep_mono (hk.widen (J := fun b => b < C.w0.heap.size)) X _ hX
    | ptr x o => exact fun ob hob => hX ob (r1 x _ hob).2
    | bs x o n s => exact fun ob hob => hX ob (r1 x _ hob).2
    | ow x n s => exact fun ob hob => hX ob (r1 x _ hob).2
  · unfold DV.rep
    have hrow := nrow_row h2
    rcases h2 with ⟨rfl, rfl, rfl, rfl⟩ | ⟨b, us, c, rfl, rfl, k2, k3, k4, k5, _⟩
    · exact .inl ⟨rfl, rfl, rfl⟩
    · refine .inr ⟨b, 0, c, rfl, k2, k5, hl, .inr ⟨h.lt g b h1, ?_⟩, ?_⟩
      · rintro (x | ⟨x, p, q⟩)
        · have k0 := h.k0 b x; have := k0.1; have := h.new g b _ hg (by simp) rfl h1; omega
        · exact (hlv x p).1 (h.inj x g b (r1 x _ q).2 h1 (hlv x p).2 ⟨_, hg, by simp⟩)
      · obtain ⟨us', q1, q2, q3⟩ := repAt_vals (row_cells hrow)
        exact repAt_of_cells (repL_mono hk _ _ q1) q2 q3
theorem repL_set {K : Nat → Prop} {u : Value} {X : DV} (hX : X.rep K w u) : ∀ {ds : List DV} {us : List Value} {i : Nat}, repL K w ds us → ds[i]? = some (.v u) → repL K w (ds.set i X) us
  | [], us, i, h, hi => by simp at hi
  | Y :: Ys, us, 0, h, hi => by
    unfold repL at h
    obtain ⟨v, t, rfl, h1, h2⟩ := h
    simp at hi; subst hi
    rw [List.set_cons_zero]; unfold repL
    exact ⟨v, t, rfl, by rw [v_rep h1]; exact hX, h2⟩
  | Y :: Ys, us, i + 1, h, hi => by
    unfold repL at h
    obtain ⟨v, t, rfl, h1, h2⟩ := h
    rw [List.set_cons_succ]; unfold repL
    exact ⟨v, t, rfl, h1, repL_set hX h2 (by simpa using hi)⟩
/-- A box whose cell holds a named row's slice: the row is let go, the cell reads as data. -/
theorem reps_cellf (g2 off g : Nat) {T2 : TypeId} {ds : List DV} {u : Value} {n T sz : Nat} {cs : List DV} (h2 : Γ g2 = some (.box T2 ds)) (hd : ds[off]? = some (.v u)) (hg : Γ g = some (.nrow u n T sz cs)) (hl : cs.length = n * sz) (h : Reps C L Γ a w) : Reps C L (upd (upd Γ g .dead) g2 (.box T2 (ds.set off (.sl sz n cs)))) a w := by
  obtain ⟨ρ, h⟩ := h
  obtain ⟨ρ', h', hr⟩ := reps_killn hg hl h
  have hne : g2 ≠ g := fun e => by subst e; rw [h2] at hg; cases hg
  have h2' : upd Γ g .dead g2 = some (.box T2 ds) := by rw [upd_other _ _ _ _ hne]; exact h2
  obtain ⟨ob, k1, k2⟩ := h'.obj g2 _ h2' (by simp)
  refine ⟨ρ', h'.lent h2' (by simp) k1 (Kept.refl _ w) (by simp) rfl ?_⟩
  obtain ⟨b, us, e, q1, q2, q3⟩ := k2
  exact ⟨b, us, e, q1, repL_set hr q2 hd, q3⟩
theorem TE.cellf {R : Act → World → Prop} (g2 off g : Nat) (ds' : List DV) {T2 : TypeId} {ds : List DV} {u : Value} {n T sz : Nat} {cs : List DV} (h2 : Γ g2 = some (.box T2 ds)) (hd : ds[off]? = some (.v u)) (hg : Γ g = some (.nrow u n T sz cs)) (hl : cs.length = n * sz) (he : ds.set off (.sl sz n cs) = ds') (k : TE C R L (upd (upd Γ g .dead) g2 (.box T2 ds'))) : TE C R L Γ := fun a w h => by subst he; exact k a w (reps_cellf g2 off g h2 hd hg hl h)
end
end Go.Proofs.YtmjokdhhniblgaaGreat.Pl
end

