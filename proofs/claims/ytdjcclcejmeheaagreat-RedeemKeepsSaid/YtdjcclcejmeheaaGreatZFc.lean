import Derived.Test.YtdjcclcejmeheaaGreatZFb
/-
  A logic of walks: appends to a named row; a drawn region whose last operation stands behind all others.
-/
namespace Go.Proofs.YtdjcclcejmeheaaGreat.Pl
set_option linter.unusedVariables false
set_option linter.unusedSimpArgs false
open Go.RowKit
section
variable {P : Program} {C : Cx} {L : Lo} {Γ : Ga} {d : Nat} {ty : TypeId} {pos : String} {af : Array Edge} {gd : Option (Nat × Bool)}
theorem OT.appendn {t e sz by_ g n m : Nat} {u : Value} {s x : Operand} {cs ds : List DV} {A : AV} (g' : Nat) (hn : Nat.blt d C.n = true) (hs : evv L s = some u) (hg : Γ g = some (.nrow u n e sz cs)) (hl : cs.length = n * sz) (hg' : Γ g' = none) (ht : apt P t = some (e, sz, by_))
    (hx : ev L x = some A) (hA : rdv Γ A = some (.sl sz m ds)) (hok : okr Γ A) (h1 : ds.all DV.one = true) (hbig : (n + m) * by_ ≤ 140737488355328) (hmax : n + m ≤ 1099511627776) :
    OT P C ⟨some d, .call { callee := .builtin .append, args := #[s, x], argTypes := #[t, t] }, ty, pos, af, gd⟩ L Γ (upd L d (.ow g' (n + m) sz)) (upd (upd Γ g .dead) g' (.row e sz (cs ++ ds))) :=
  OT.turns fun ρ a w h => by
    obtain ⟨hu, i, z, hi, hz, hsz, hby, hzs, h0⟩ := apt_parts ht
    obtain ⟨ob, hρ, ho0⟩ := h.obj g _ hg (by simp)
    have ho := nrow_row ho0
    have hsr : (AV.ow g n sz).rep ρ (KK C.K0 ρ Γ) C.w0.heap.size w (a.eval s) := by rw [evv_eval h hs]; exact nrow_ow ho0 hρ _ _
    have hB : ∀ b, ob = some b → C.w0.heap.size ≤ b := fun b eb => h.new g b _ hg (by simp) rfl (by rw [hρ, eb])
    obtain ⟨us, k1, k2, k3, k4⟩ := row_owns (B := C.w0.heap.size) ho (hsr ob hρ) hl h0 hB
    have hsrc := src_vals h hx hA hok
    have key : ∃ v' w' vs, (Builtin.append_ #[t, t] ty #[a.eval s, a.eval x]).run P w = .ok v' w' ∧ w'.ownsRow C.w0.heap.size e sz v' (n + m) (us ++ vs) ∧ w.grownBy w' ob ∧ repL (KK C.K0 ρ Γ) w ds vs ∧ (∀ b, v'.ownBlock = some b → ob = some b ∨ w.heap.size ≤ b) := by
      rcases hsrc with ⟨hxv, rfl, rfl⟩ | ⟨b, o, c, vs, hxv, q1, q2, q3, q4⟩
      · rw [hxv]
        refine ⟨a.eval s, w, [], run_append_owned_none w _ _ _ _ i sz hu hi _ _ _ k1, by simpa using k1, ⟨rfl, rfl, rfl, Nat.le_refl _, fun _ _ _ => rfl⟩, by simp [repL], fun b hb => .inl (by rw [← k3, hb])⟩
      · rw [hxv]
        obtain ⟨v', w', r1, r2, r3, _, r5⟩ := run_append_own_at (P := P) w C.w0.heap.size t ty e i z sz by_ hu hi hz hsz hby hzs h0 (a.eval s) n us k1 ⟨b, o, none⟩ m c vs q2 q3 q4 (by unfold maxLen; omega) hbig h.fr.size
        refine ⟨v', w', vs, r1, r2, by rw [← k3]; exact r3, q1, fun b' hb' => ?_⟩
        rcases r5 with r5 | r5
        · exact .inl (by rw [← k3, ← r5, hb'])
        · rw [r5] at hb'; cases hb'; exact .inr (Nat.le_refl _)
    obtain ⟨v', w', vs, r1, r2, r3, r4, r5⟩ := key
    refine ⟨v', w', by simp only [execOp, resolve, invoke, builtin, Sem.run_bind, Sem.run_pure, Result.andThen_ok, List.map_toArray, List.map_cons, List.map_nil, r1], ?_⟩
    have hlt := owns_lt r2
    have hones : ∀ x ∈ us ++ vs, x.oneCell' = true := fun x hx => (List.mem_append.1 hx).elim (k4 x) (all_one_of r4 h1 x)
    -- the cells of the elder row and what is appended, in the new world
    have hreads : ∀ K, Keeps (KK C.K0 ρ Γ) K w w' → repL K w' (cs ++ ds) (us ++ vs) := fun K hK => by
      refine repL_append (repL_mono hK _ _ k2) ?_
      exact repL_mono hK _ _ r4
    obtain ⟨ρ', hr, hρ', _⟩ := h.gain (g := g') (ob := ob) (ob' := v'.ownBlock) (o' := .row e sz (cs ++ ds)) (w' := w') (Γ1 := upd Γ g .dead) hg'
      (fun g1 o1 h1 h2 => (upd_some h1).elim (fun e => absurd e.2 h2) (fun e => e.2))
      (fun g1 h1 => by by_cases e : g1 = g; · subst e; rw [upd_same]; simp
                       · rw [upd_other _ _ _ _ e]; exact h1)
      (fun b g1 eb hl1 hρ1 => by
        obtain ⟨o1, p1, p2⟩ := hl1
        rcases upd_some p1 with ⟨_, e⟩ | ⟨hne, p1⟩
        · exact p2 e
        · exact hne (h.inj g1 g b hρ1 (by rw [hρ, eb]) ⟨o1, p1, p2⟩ ⟨_, hg, by simp⟩))
      (fun b eb => ⟨hB b eb, g, ⟨_, hg, by simp⟩, by rw [hρ, eb]⟩) r3 (fun b eb => ⟨r5 b eb, hlt b eb⟩) (by simp) rfl
      (fun K hK _ => (owns_row r2 (hreads K hK) hones).1)
    refine ⟨ρ', hr.put (by simpa using hn) (fun ob' hob => ?_) (fun g1 hg1 => ?_)⟩
    · rw [hρ'] at hob; cases hob
      exact (owns_row r2 (hreads _ ‹_›) hones).2
    · cases hg1; rw [upd_same]; simp
end
section
variable {P : Program} {C : Cx} {Q : Exit → Act → World → Prop} {L : Lo} {Γ : Ga}
theorem qsub_weak {P0 : Act → World → Prop} {o : Oper} {a : Act} {w : World} {N N' : Act → World → Prop} (h : o.wp P a w N (QSub P0)) (hn : ∀ a w, N a w → N' a w) : o.wp P a w N' Q := by
  unfold Oper.wp at h ⊢
  generalize (execOp a.eval o).run P w = r at h
  cases r with
  | ok x w' =>
    cases x <;> simp only [Oper.upon] at h ⊢
    case enter f args =>
      exact h.mono fun e w'' hr => by
        cases e with
        | returned v => exact hn _ _ hr
        | panicked c => exact hr.elim
        | outgrown => exact hr.elim fun _ q => q.elim fun _ q => q.elim
    case row r args => exact h.mono fun v w'' hr => hn _ _ hr
    all_goals exact hn _ _ h
  | halt x w' => cases x <;> simp only [Oper.upon] at h ⊢ <;> exact h.elim
/-- The last operation stands behind all others, and no other one leans on it; there are no guards. -/
def lastOK (l : List Oper) (last : Oper) : Bool := (last.guard.isNone) && (List.range l.length).all (fun j => last.after.toList.any (fun e => bnds e && Nat.beq e.on j)) && (last.after.toList.all (fun e => !bnds e || Nat.blt e.on l.length) && l.zipIdx.all (fun x => x.1.guard.isNone && x.1.after.toList.all (fun e => !bnds e || Nat.blt e.on x.2)))
theorem lastOK_parts {l : List Oper} {last : Oper} (h : lastOK l last = true) : last.guard = none ∧ (∀ j, j < l.length → ∃ e ∈ last.after, bnds e = true ∧ e.on = j) ∧ (∀ e ∈ last.after, bnds e = true → e.on < l.length) ∧ ∀ (j : Nat) (o : Oper), l[j]? = some o → o.guard = none ∧ ∀ e ∈ o.after, bnds e = true → e.on < j := by
  unfold lastOK at h
  simp only [Bool.and_eq_true] at h
  obtain ⟨⟨h1, h2⟩, h4, h3⟩ := h
  refine ⟨by simpa using h1, fun j hj => ?_, fun e he hb => ?_, fun j o ho => ?_⟩
  · have := List.all_eq_true.1 h2 j (List.mem_range.2 hj)
    obtain ⟨e, he, q⟩ := List.any_eq_true.1 this
    simp only [Bool.and_eq_true, Nat.beq_eq] at q
    exact ⟨e, by simpa using he, q.1, q.2⟩
  · have q := List.all_eq_true.1 h4 e (by simpa using he)
    simpa [hb] using q
  · have := List.all_eq_true.1 h3 (o, j) (by rw [List.mem_iff_getElem?]; exact ⟨j, by rw [List.getElem?_zipIdx, ho]; simp⟩)
    simp only [Bool.and_eq_true] at this
    refine ⟨by simpa using this.1, fun e he hb => ?_⟩
    have q := List.all_eq_true.1 this.2 e (by simpa using he)
    simpa [hb] using q
theorem wanted_free {o : Oper} (h : o.guard = none) (y : Nat → Option Bool) : Region.wanted o y = true := by unfold Region.wanted; rw [h]
section
variable {l : List Oper} {last : Oper}
theorem push_get (j : Nat) (hj : j < l.length) : (l ++ [last]).toArray[j]? = l.toArray[j]? := by
  simp only [List.getElem?_toArray]
  rw [List.getElem?_append_left hj]
theorem all_listed (hl : ∀ (j : Nat) (o : Oper), l[j]? = some o → o.guard = none ∧ ∀ e ∈ o.after, bnds e = true → e.on < j) {listed : Array Bool} (hs : listed.size = l.length) (hr : Region.ready .any l.toArray listed = []) : ∀ j, j < l.length → listed.getD j false = true := by
  intro j
  induction j using Nat.strongRecOn with
  | _ j ih =>
    intro hj
    cases hd : listed.getD j false with
    | true => rfl
    | false =>
      exfalso
      have hx : l[j]? = some l[j] := List.getElem?_eq_getElem hj
      have : j ∈ Region.ready .any l.toArray listed := by
        rw [mem_ready]
        refine ⟨?_, l[j], by simp [hj], fun e he hb => ih e.on ((hl j _ hx).2 e he hb) (by have := (hl j _ hx).2 e he hb; omega)⟩
        have hjl : j < listed.size := by rw [hs]; exact hj
        rw [Array.getD_eq_getD_getElem?, Array.getElem?_eq_getElem hjl] at hd ⊢
        simpa using hd
      rw [hr] at this; cases this
theorem push_getD (listed : Array Bool) (j : Nat) (hj : j < listed.size) (b c : Bool) : (listed.push c).getD j b = listed.getD j b := by
  rw [Array.getD_eq_getD_getElem?, Array.getD_eq_getD_getElem?, Array.getElem?_push_lt hj]
  simp [hj]
theorem ready_none {ops : Array Oper} {listed : Array Bool} (h : ∀ j, j < listed.size → listed.getD j false = true) : Region.ready .any ops listed = [] := by
  cases hr : Region.ready .any ops listed with
  | nil => rfl
  | cons i r =>
    have hi : i ∈ Region.ready .any ops listed := by rw [hr]; simp
    rw [mem_ready] at hi
    have h1 := hi.1
    by_cases hs : i < listed.size
    · have := h i hs
      rw [Array.getD_eq_getD_getElem?, Array.getElem?_eq_getElem hs] at this h1
      simp at this h1; rw [this] at h1; cases h1
    · rw [Array.getD_eq_getD_getElem?, Array.getElem?_eq_none (by omega)] at h1; simp at h1
theorem any_last (hok : lastOK l last = true) : ∀ (fuel : Nat) (listed : Array Bool) (a : Act) (w : World), listed.size = l.length → wpAny P .any l.toArray (QSub (fun a w => wpList P (l ++ [last]).toArray Q [last] a w)) fuel listed a w → wpAny P .any (l ++ [last]).toArray Q (fuel + 1) (listed.push false) a w := by
  obtain ⟨hg, hlast, hself, hl⟩ := lastOK_parts hok
  have hk : (l ++ [last]).toArray[l.length]? = some last := by simp
  have hback : ∀ (listed : Array Bool) (i : Nat), listed.size = l.length → i < l.length → (i ∈ Region.ready .any (l ++ [last]).toArray (listed.push false) ↔ i ∈ Region.ready .any l.toArray listed) := fun listed i hs hi => by
    rw [mem_ready, mem_ready, push_get i hi, push_getD _ _ (by omega)]
    refine and_congr_right fun _ => exists_congr fun o => and_congr_right fun ho => forall_congr' fun e => forall_congr' fun he => forall_congr' fun hb => ?_
    have := (hl i o (by simpa using ho)).2 e he hb
    rw [push_getD _ _ (by omega)]
  have fin : ∀ (fuel : Nat) (listed : Array Bool) (a : Act) (w : World), listed.size = l.length → (∀ j, j < l.length → listed.getD j false = true) → wpList P (l ++ [last]).toArray Q [last] a w → wpAny P .any (l ++ [last]).toArray Q (fuel + 1) (listed.push false) a w := fun fuel listed a w hs hall h => by
    have hin : l.length ∈ Region.ready .any (l ++ [last]).toArray (listed.push false) := by
      rw [mem_ready]
      refine ⟨by rw [Array.getD_eq_getD_getElem?, ← hs, Array.getElem?_push_size]; rfl, last, hk, fun e he hb => ?_⟩
      have hj := hself e he hb
      rw [push_getD _ _ (by rw [hs]; exact hj)]; exact hall _ hj
    refine ⟨fun hr => (by rw [hr] at hin; cases hin), fun i hi => ?_⟩
    have hil : i = l.length := by
      rcases Nat.lt_trichotomy i l.length with q | q | q
      · have := (hback listed i hs q).1 hi
        rw [ready_none (fun j hj => hall j (by omega))] at this; cases this
      · exact q
      · rw [mem_ready] at hi
        obtain ⟨_, o, ho, _⟩ := hi
        simp only [List.getElem?_toArray] at ho
        rw [List.getElem?_eq_none (by simp; omega)] at ho; cases ho
    subst hil
    unfold wpOp
    simp only [hk]
    rw [if_pos (wanted_free hg _)]
    unfold wpList at h
    rw [if_pos (wanted_free hg _)] at h
    refine h.imp (fun h => Oper.wp_mono (fun a' w' q => ?_) h) id
    have hnone : Region.ready .any (l ++ [last]).toArray ((listed.push false).setIfInBounds l.length true) = [] := ready_none (fun j hj => by
      have hj' : j < l.length + 1 := by simpa [hs] using hj
      rw [Array.getD_eq_getD_getElem?]
      by_cases e : l.length = j
      · subst e
        rw [Array.getElem?_setIfInBounds_self]
        simp [hs]
      · rw [Array.getElem?_setIfInBounds_ne e, ← Array.getD_eq_getD_getElem?, push_getD _ _ (by omega)]
        exact hall j (by omega))
    have q : Q .normal a' w' := q
    cases fuel with
    | zero => exact ⟨hnone, q⟩
    | succ f => exact ⟨fun _ => q, fun i hi => (by rw [hnone] at hi; cases hi)⟩
  intro fuel
  induction fuel with
  | zero =>
    intro listed a w hs h
    exact fin 0 listed a w hs (all_listed hl hs h.1) h.2
  | succ fuel ih =>
    intro listed a w hs h
    by_cases hr : Region.ready .any l.toArray listed = []
    · exact fin (fuel + 1) listed a w hs (all_listed hl hs hr) (h.1 hr)
    · refine ⟨fun hr' => absurd ?_ hr, fun i hi => ?_⟩
      · cases hx : Region.ready .any l.toArray listed with
        | nil => rfl
        | cons i r =>
          have hi : i ∈ Region.ready .any l.toArray listed := by rw [hx]; simp
          have hil : i < l.length := by
            rw [mem_ready] at hi
            obtain ⟨_, o, ho, _⟩ := hi
            simp only [List.getElem?_toArray] at ho
            exact (List.getElem?_eq_some_iff.1 ho).1
          rw [← hback listed i hs hil, hr'] at hi; cases hi
      · rcases Nat.lt_trichotomy i l.length with q | q | q
        · have h2 := h.2 i ((hback listed i hs q).1 hi)
          unfold wpOp at h2 ⊢
          rw [push_get i q]
          have ho : l.toArray[i]? = some l[i] := by simp [q]
          simp only [ho] at h2 ⊢
          have hgi := (hl i l[i] (List.getElem?_eq_getElem q)).1
          rw [if_pos (wanted_free hgi _)] at h2 ⊢
          rcases h2 with h2 | ⟨_, _, _, h2⟩
          · refine .inl (qsub_weak h2 fun a' w' k => ?_)
            have := ih (listed.setIfInBounds i true) a' w' (by simpa using hs) k
            rwa [show (listed.setIfInBounds i true).push false = (listed.push false).setIfInBounds i true from by
              apply Array.ext_getElem?
              intro j
              by_cases e : i = j
              · subst e
                rw [Array.getElem?_setIfInBounds_self, Array.getElem?_push_lt (by simp; omega)]
                simp [hs, q]; omega
              · rw [Array.getElem?_setIfInBounds_ne e]
                by_cases hj : j < listed.size
                · rw [Array.getElem?_push_lt (by simpa using hj), Array.getElem?_push_lt hj, Array.getElem_setIfInBounds_ne (h := e)]
                · by_cases hj2 : j = listed.size
                  · subst hj2; rw [Array.getElem?_push_size, ← Array.size_setIfInBounds (xs := listed) (i := i) (a := true), Array.getElem?_push_size]
                  · rw [Array.getElem?_eq_none (by simp; omega), Array.getElem?_eq_none (by simp; omega)]] at this
          · exact h2.elim
        · exfalso
          subst q
          rw [mem_ready] at hi
          obtain ⟨_, o, ho, hall⟩ := hi
          rw [hk] at ho; cases ho
          refine hr (ready_none fun j hj => ?_)
          obtain ⟨e, he, hb, hej⟩ := hlast j (by omega)
          have := hall e he hb
          rw [hej, push_getD _ _ hj] at this
          exact this
        · exfalso
          rw [mem_ready] at hi
          obtain ⟨_, o, ho, _⟩ := hi
          simp only [List.getElem?_toArray] at ho
          rw [List.getElem?_eq_none (by simp; omega)] at ho; cases ho
/-- A drawn region whose last operation stands behind all others. -/
theorem TC.drawlast {id : Nat} {l' : List Oper} (hm : P.follows .mixedOrders = true) (rs : List Ro) (last : Oper) (hl : l' = rs.map (·.o) ++ [last]) (hobs : Obs P C (rs.map (·.o)).toArray rs L Γ) (hok : drawOK rs = true) (hlast : lastOK (rs.map (·.o)) last = true) (hend : TL P C l'.toArray Q [last] (stL rs L) (stG rs Γ)) :
    TC P C (.region id l'.toArray true) Q L Γ := fun a w hr => by
  subst hl
  refine wp_region_any hm ?_
  have hsz : (rs.map (·.o) ++ [last]).toArray.size = (rs.map (·.o)).length + 1 := by simp
  have hrep : Array.replicate (rs.map (·.o) ++ [last]).toArray.size false = (Array.replicate (rs.map (·.o)).length false).push false := by rw [hsz, Array.replicate_succ]
  rw [hrep, hsz]
  refine any_last hlast _ _ a _ (by simp) ?_
  refine draw_sound (Q := QSub (fun a w => wpList P (rs.map (·.o) ++ [last]).toArray Q [last] a w)) rfl hok hobs hend _ _ a _ (by simp) ?_ (fun j o _ hj => ?_) ?_
  · have : ∀ n, cnt (List.replicate n false) = n := fun n => by induction n with
      | zero => rfl
      | succ n ih => rw [List.replicate_succ]; simp only [cnt, ih, cond_false]; omega
    simp [this]
  · rw [Array.getD_eq_getD_getElem?, Array.getElem?_replicate] at hj
    split at hj <;> simp at hj
  · have h0 : (fun i => (Array.replicate (rs.map (·.o)).length false).getD i false) = fun _ => false := by
      funext i
      rw [Array.getD_eq_getD_getElem?, Array.getElem?_replicate]
      split <;> rfl
    rw [h0, mL_none, mG_none]
    exact reps_drawn hr
end
end
end Go.Proofs.YtdjcclcejmeheaaGreat.Pl

